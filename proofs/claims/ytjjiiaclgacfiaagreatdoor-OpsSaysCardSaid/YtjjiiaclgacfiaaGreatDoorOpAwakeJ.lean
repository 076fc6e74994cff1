/-
  Law 21's awake and OpsKnown, walked: true. Condition: the library's variables as it lays them.
-/
import Derived.Test.YtjjiiaclgacfiaaGreatDoorOpSameJ
import Derived.Test.YtjjiiaclgacfiaaGreatDoorJ7
import Derived.Test.YtjjiiaclgacfiaaGreatDoorJ6
import Derived.Test.YtjjiiaclgacfiaaGreatDoorJ8
import Derived.Test.YtjjiiaclgacfiaaGreatDoorJ4
namespace Go.Proofs.YtjjiiaclgacfiaaGreatDoor
open Go.RowKit
set_option linter.unusedVariables false
set_option linter.unusedSimpArgs false
/-- An operation over a tree. -/
def opOf (R N T : Int) (seen : List Int) (K OR ON : Int) (key : ByteArray) (AR AN M : Int) (t : VT) : OpV := { R, N, T, seen, K, OR, ON, key, AR, AN, M, VK := t.k, VN := t.n, VS := t.s, VL := t.L, VM := t.M }
theorem opOf_vc (R N T : Int) (seen : List Int) (K OR ON : Int) (key : ByteArray) (AR AN M : Int) (t : VT) : (opOf R N T seen K OR ON key AR AN M t).vc = t.c := rfl
theorem good_v (o : OpV) (t : VT) (w : World) (hw : Vars w) (ho : o.seen.length = 64) (hv : o.vc = t.c) (ht : VT.In w.heap.size w t) (hk : o.key.size ≤ 9223372036854775807) :
    Calls Tryz.prog 6 #[opv o] w fun e w' => e = .returned (.bool (opB o (goodT t) (sameV t .no) (validS o.key).2)) ∧ Below w.heap.size w w' := by
  refine oGood_any o _ _ _ w ho ?_ ?_ ?_
  · intro W hB
    rw [hv]
    exact goodT_any t W (hw.step hB) ((ht.move hB).up hB.size)
  · intro W hB
    rw [hv]
    exact zero_any t W ((ht.move hB).up hB.size)
  · exact fun W hB => (valid_any o.key W hk).mono fun e w' ⟨he, hb⟩ => ⟨⟨_, he⟩, hb⟩
def KA : ByteArray := ⟨#[97]⟩
def Z0 : List Int := List.replicate 64 0
def zeroO : OpV := opOf 0 0 0 Z0 0 0 0 ⟨#[]⟩ 0 0 0 .no
def setO : OpV := opOf 1 1 1 Z0 1 0 0 KA 0 0 0 .no
def setP : OpV := opOf 1 1 2 Z0 1 0 0 KA 0 0 0 .no
theorem op_one {o : OpV} (hL : o.VL.oneCell' = true) (hM : o.VM.oneCell' = true) : o.c.all (·.oneCell') = true := by
  have hi : ∀ k n, (Value.int k n).oneCell' = true := fun _ _ => rfl
  have hs : ∀ s, (Value.string s).oneCell' = true := fun _ => rfl
  simp [OpV.c, OpV.l, OpV.v, hL, hM, hi, hs]
theorem op_alloc (W : World) : (Instr.alloc 32 true (.tuple #[])).run Tryz.prog W = .ok (.pointer (some ⟨W.heap.size, 0, none⟩)) (W.alloc (Obj.cells zeroO.c 32)) := by kernel_rfl
theorem op_build_set (W : World) : (Instr.build 32 #[(0, .agg #[.int .i64 1, .int .i64 1]), (1, .int .i64 1), (3, .int .i64 1), (5, .string ⟨#[97]⟩)]).run Tryz.prog W = .ok (.agg setO.c) W := by kernel_rfl
theorem op_build_zero (W : World) : (Instr.build 32 #[]).run Tryz.prog W = .ok (.agg zeroO.c) W := by kernel_rfl
set_option maxRecDepth 100000 in
set_option maxHeartbeats 1000000 in
theorem set_any (w : World) : Calls Tryz.prog 12 #[] w fun e w' => e = .returned (.agg setO.c) ∧ Below w.heap.size w w' := by
  have ha := op_alloc
  have hb := op_build_set
  have hS := Boxes.start w
  go_enter Tryz.func12, Tryz.ntmps12
  go_wp2_with (first | go_skip | (refine wpList_store_row rfl 32 (.tmp 0) (.tmp 2) rfl _ setO.c rfl rfl 32 _ (heap_alloc_new _ _) (op_info _ rfl) rfl (op_one rfl rfl) ?_; intro wn hbn hgn hon hsn; have hS1 := hS.box hbn hgn; clear hS; have hS := hS1; clear hS1; clear hbn hgn hon hsn))
  exact bodyPost_ret (v := .agg setO.c) (results_cell_row rfl _ _ _ _ _ _ _ rfl (hS.at_ 0 rfl) Tryz.underlying32 rfl (op_info _ rfl)) rfl ⟨rfl, hS.below⟩
theorem o_good : opB setO (goodT .no) (sameV .no .no) (validS setO.key).2 = true := by kernel_rfl
theorem z_good : opB zeroO (goodT .no) (sameV .no .no) (validS zeroO.key).2 = false := by kernel_rfl
theorem o_same : sameO setO setO .no .no = true := by kernel_rfl
theorem o_diff : sameO setO setP .no .no = false := by kernel_rfl
theorem o_after : afterB setP setO = true := by kernel_rfl
theorem o_before : afterB setO setP = false := by kernel_rfl
theorem c_good (w : World) (hw : Vars w) : Calls Tryz.prog 6 #[opv setO] w fun e w' => e = .returned (.bool true) ∧ Below w.heap.size w w' := by
  have h := good_v setO .no w hw rfl rfl (VT.no_in _ _) (by decide)
  rw [o_good] at h; exact h
theorem zero_cells : Tryz.zeroCells32 = zeroO.c := by kernel_rfl
theorem c_bad (w : World) (hw : Vars w) : Calls Tryz.prog 6 #[.agg Tryz.zeroCells32] w fun e w' => e = .returned (.bool false) ∧ Below w.heap.size w w' := by
  rw [zero_cells]
  have h := good_v zeroO .no w hw rfl rfl (VT.no_in _ _) (by decide)
  rw [z_good] at h; exact h
theorem c_same (w : World) : Calls Tryz.prog 8 #[opv setO, opv setO] w fun e w' => e = .returned (.bool true) ∧ Below w.heap.size w w' := by
  have h := oSame_any setO setO .no .no w rfl rfl rfl rfl (VT.no_in _ _) (VT.no_in _ _)
  rw [o_same] at h; exact h
theorem c_diff (w : World) : Calls Tryz.prog 8 #[opv setO, opv setP] w fun e w' => e = .returned (.bool false) ∧ Below w.heap.size w w' := by
  have h := oSame_any setO setP .no .no w rfl rfl rfl rfl (VT.no_in _ _) (VT.no_in _ _)
  rw [o_diff] at h; exact h
theorem c_after (w : World) : Calls Tryz.prog 10 #[opv setP, opv setO] w fun e w' => e = .returned (.bool true) ∧ Below w.heap.size w w' := by
  have h := After_any setP setO w
  rw [o_after] at h; exact h
theorem c_before (w : World) : Calls Tryz.prog 10 #[opv setO, opv setP] w fun e w' => e = .returned (.bool false) ∧ Below w.heap.size w w' := by
  have h := After_any setO setP w
  rw [o_before] at h; exact h
theorem set_T : setO.c.setIfInBounds 2 (.int .i64 2) = setP.c := by kernel_rfl
set_option maxRecDepth 100000 in
set_option maxHeartbeats 2000000 in
theorem awake21_any (w : World) (hw : Vars w) : Calls Tryz.prog 4 #[] w fun e w' => e = .returned (.bool true) ∧ Below w.heap.size w w' := by
  have HV := Lib.hid hw
  clear hw
  have ha := op_alloc
  have hb := op_build_zero
  have hS := Boxes.start w
  go_enter Tryz.func4, Tryz.ntmps4
  go_wp2_with (first | go_skip | (go_at_call 12; (with_reducible (refine (set_any _).mono ?_)); rintro e wn ⟨rfl, hbn⟩; have hS1 := hS.step hbn; clear hS hbn; have hS := hS1; clear hS1) | (refine wpList_store_row rfl 32 (.tmp 1) (.tmp 3) rfl _ setO.c rfl rfl 32 _ (heap_alloc_new _ _) (op_info _ rfl) rfl (op_one rfl rfl) ?_; intro wn hbn hgn hon hsn; have hS1 := hS.box hbn hgn; clear hS; have hS := hS1; clear hS1; clear hbn hgn hon hsn) | (refine wpList_store_row rfl 32 (.tmp 2) (.tmp 4) rfl _ setO.c rfl rfl 32 _ (heap_alloc_new _ _) (op_info _ rfl) rfl (op_one rfl rfl) ?_; intro wn hbn hgn hon hsn; have hS1 := hS.box hbn hgn; clear hS; have hS := hS1; clear hS1; clear hbn hgn hon hsn) | (refine store_elem rfl 2 (.tmp 5) _ rfl _ 2 (.int .i64 2) rfl rfl rfl 32 _ _ (hS.at_ 1 rfl) (OpV.g2 (o := setO)) (by kernel_rfl) ?_; rw [set_T]; intro wn hgn hon hbn hsn; have hS1 := hS.put 1 rfl hon hbn hgn; clear hS hgn hon hbn hsn; have hS := hS1; clear hS1) | (refine wpList_load_row' rfl 32 (.tmp 1) rfl _ rfl 32 _ (0, 0) _ (hS.at_ 0 rfl) Tryz.underlying32 rfl (op_info _ rfl) ?_) | (refine wpList_load_row' rfl 32 (.tmp 2) rfl _ rfl 32 _ (0, 0) _ (hS.at_ 1 rfl) Tryz.underlying32 rfl (op_info _ rfl) ?_) | (go_at_call 6; (with_reducible (refine (c_good _ (HV.out.step hS.below)).mono ?_)); rintro e wn ⟨rfl, hbn⟩; have hS1 := hS.step hbn; clear hS hbn; have hS := hS1; clear hS1) | (go_at_call 6; (with_reducible (refine (c_bad _ (HV.out.step hS.below)).mono ?_)); rintro e wn ⟨rfl, hbn⟩; have hS1 := hS.step hbn; clear hS hbn; have hS := hS1; clear hS1) | (go_at_call 8; (with_reducible (refine (c_same _).mono ?_)); rintro e wn ⟨rfl, hbn⟩; have hS1 := hS.step hbn; clear hS hbn; have hS := hS1; clear hS1) | (go_at_call 8; (with_reducible (refine (c_diff _).mono ?_)); rintro e wn ⟨rfl, hbn⟩; have hS1 := hS.step hbn; clear hS hbn; have hS := hS1; clear hS1) | (go_at_call 10; (with_reducible (refine (c_after _).mono ?_)); rintro e wn ⟨rfl, hbn⟩; have hS1 := hS.step hbn; clear hS hbn; have hS := hS1; clear hS1) | (go_at_call 10; (with_reducible (refine (c_before _).mono ?_)); rintro e wn ⟨rfl, hbn⟩; have hS1 := hS.step hbn; clear hS hbn; have hS := hS1; clear hS1))
  go_ret
  exact ⟨rfl, hS.below⟩
def opA : OpV := opOf 1 1 1 Z0 1 0 0 KA 0 0 3 .no
def leafL : VT := VT.leaf 5 0 ⟨#[]⟩
def opB' : OpV := opOf 1 1 1 Z0 1 0 0 KA 0 0 0 leafL
def opC : OpV := opOf 1 1 1 Z0 1 2 1 KA 0 0 0 .no
def opD : OpV := opOf 1 1 1 (Z0.set 0 1) 1 0 0 KA 0 0 0 .no
def opE : OpV := opOf 1 1 1 Z0 1 0 0 KA 0 0 1 .no
theorem g_a : opB opA (goodT .no) (sameV .no .no) (validS opA.key).2 = false := by kernel_rfl
theorem g_b : opB opB' (goodT leafL) (sameV leafL .no) (validS opB'.key).2 = false := by kernel_rfl
theorem g_c : opB opC (goodT .no) (sameV .no .no) (validS opC.key).2 = false := by kernel_rfl
theorem g_d : opB opD (goodT .no) (sameV .no .no) (validS opD.key).2 = false := by kernel_rfl
theorem g_e : opB opE (goodT .no) (sameV .no .no) (validS opE.key).2 = true := by kernel_rfl
theorem good_is (o : OpV) (t : VT) (b : Bool) (hb : opB o (goodT t) (sameV t .no) (validS o.key).2 = b) (w : World) (hw : Vars w) (ho : o.seen.length = 64) (hv : o.vc = t.c) (ht : VT.In w.heap.size w t) (hk : o.key.size ≤ 9223372036854775807) :
    Calls Tryz.prog 6 #[opv o] w fun e w' => e = .returned (.bool b) ∧ Below w.heap.size w w' := by
  have h := good_v o t w hw ho hv ht hk
  rw [hb] at h; exact h
theorem k_a (w : World) (hw : Vars w) : Calls Tryz.prog 6 #[opv opA] w fun e w' => e = .returned (.bool false) ∧ Below w.heap.size w w' := good_is opA .no _ g_a w hw rfl rfl (VT.no_in _ _) (by decide)
theorem k_b (w : World) (hw : Vars w) : Calls Tryz.prog 6 #[opv opB'] w fun e w' => e = .returned (.bool false) ∧ Below w.heap.size w w' := good_is opB' leafL _ g_b w hw rfl rfl (VT.leaf_in _ _ _ _ _ (by decide) (by decide) (by decide) (by decide) (by decide)) (by decide)
theorem k_c (w : World) (hw : Vars w) : Calls Tryz.prog 6 #[opv opC] w fun e w' => e = .returned (.bool false) ∧ Below w.heap.size w w' := good_is opC .no _ g_c w hw rfl rfl (VT.no_in _ _) (by decide)
theorem k_d (w : World) (hw : Vars w) : Calls Tryz.prog 6 #[opv opD] w fun e w' => e = .returned (.bool false) ∧ Below w.heap.size w w' := good_is opD .no _ g_d w hw rfl rfl (VT.no_in _ _) (by decide)
theorem k_e (w : World) (hw : Vars w) : Calls Tryz.prog 6 #[opv opE] w fun e w' => e = .returned (.bool true) ∧ Below w.heap.size w w' := good_is opE .no _ g_e w hw rfl rfl (VT.no_in _ _) (by decide)
theorem s_a : setO.c.setIfInBounds 73 (.int .i64 3) = opA.c := by kernel_rfl
theorem s_b : (setO.c.toList.take 74 ++ leafL.c.toList ++ setO.c.toList.drop 79).toArray = opB'.c := by kernel_rfl
theorem s_c : (setO.c.toList.take 68 ++ [Value.int .i64 2, .int .i64 1] ++ setO.c.toList.drop 70).toArray = opC.c := by kernel_rfl
theorem s_d : setO.c.setIfInBounds 3 (.int .i64 1) = opD.c := by kernel_rfl
theorem s_e : setO.c.setIfInBounds 73 (.int .i64 1) = opE.c := by kernel_rfl
end Go.Proofs.YtjjiiaclgacfiaaGreatDoor
