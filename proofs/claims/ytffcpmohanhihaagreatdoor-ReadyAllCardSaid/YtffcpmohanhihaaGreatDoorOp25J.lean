/-
  Law 25's op, walked: an operation made of numbers. No condition beside that they fit.
-/
import Derived.Test.YtffcpmohanhihaaGreatDoorJ21
import Derived.Test.YtffcpmohanhihaaGreatDoorJ23
import Derived.Test.YtffcpmohanhihaaGreatDoorJ14
namespace Go.Proofs.YtffcpmohanhihaaGreatDoor
open Go.RowKit Go.Sort
set_option linter.unusedVariables false
set_option linter.unusedSimpArgs false
set_option linter.unusedSectionVars false
def mod4 (x : Int) : Nat := (BitVec.ofInt 64 x &&& BitVec.ofInt 64 3).toNat
theorem mod4_le (x : Int) : mod4 x ≤ 3 := by
  unfold mod4
  rw [BitVec.toNat_and]
  exact Nat.and_le_right
def key25 (x : Int) : ByteArray := ⟨#[107]⟩ ++ ⟨(Lib.itoa (mod4 x : Int)).toArray⟩
def less1 (n : Int) : Int := if n = -9223372036854775808 then 9223372036854775807 else n - 1
theorem less1_is {n : Int} (h : -9223372036854775808 ≤ n ∧ n ≤ 9223372036854775807) : IntKind.i64.wrap (n - 1) = less1 n := by
  rw [IntKind.wrap_i64]; unfold less1; split <;> omega
def seen25 (r n saw : Int) : List Int := if 1 ≤ r ∧ r ≤ 64 then (Z0.set 0 saw).set (r.toNat - 1) (less1 n) else Z0.set 0 saw
def opv25 (r n t saw x : Int) : OT := ⟨opOf r n t (seen25 r n saw) 1 0 0 (key25 x) 0 0 0 (VT.leaf 2 x ⟨#[]⟩), VT.leaf 2 x ⟨#[]⟩⟩
theorem seen25_len (r n saw : Int) : (seen25 r n saw).length = 64 := by
  unfold seen25
  split
  · rw [List.length_set, List.length_set]; rfl
  · rw [List.length_set]; rfl
theorem key25_size (x : Int) : (key25 x).size ≤ 2 := by
  have h := mod4_le x
  unfold key25
  generalize mod4 x = m at h
  match m, h with
  | 0, _ => exact of_decide_eq_true (by kernel_rfl)
  | 1, _ => exact of_decide_eq_true (by kernel_rfl)
  | 2, _ => exact of_decide_eq_true (by kernel_rfl)
  | 3, _ => exact of_decide_eq_true (by kernel_rfl)
theorem itoa4_len (x : Int) : (Lib.itoa (mod4 x : Int)).length ≤ 1 := by
  have h := mod4_le x
  generalize mod4 x = m at h
  match m, h with
  | 0, _ => exact of_decide_eq_true (by kernel_rfl)
  | 1, _ => exact of_decide_eq_true (by kernel_rfl)
  | 2, _ => exact of_decide_eq_true (by kernel_rfl)
  | 3, _ => exact of_decide_eq_true (by kernel_rfl)
structure Fit25 (r n t saw x : Int) : Prop where
  r : -9223372036854775808 ≤ r ∧ r ≤ 9223372036854775807
  n : -9223372036854775808 ≤ n ∧ n ≤ 9223372036854775807
  t : -9223372036854775808 ≤ t ∧ t ≤ 9223372036854775807
  s : -9223372036854775808 ≤ saw ∧ saw ≤ 9223372036854775807
  x : -9223372036854775808 ≤ x ∧ x ≤ 9223372036854775807
theorem opv25_ok {r n t saw x : Int} (h : Fit25 r n t saw x) : OT.Ok (opv25 r n t saw x) :=
  ⟨seen25_len r n saw, rfl, Nat.le_trans (key25_size x) (by decide), h.r, h.n, h.t, fun B W => VT.leaf_in B W 2 x _ h.x.1 h.x.2 (by decide) (by decide) (by decide), rfl, rfl⟩
theorem set_seen (o : OpV) (h : o.seen.length = 64) (k : Nat) (hk : k < 64) (v : Int) : o.c.setIfInBounds (3 + k) (.int .i64 v) = ({ o with seen := o.seen.set k v } : OpV).c := by
  unfold OpV.c OpV.l OpV.v
  apply Array.toList_inj.1
  rw [Array.toList_setIfInBounds]
  simp only [List.append_assoc]
  rw [List.set_append_right _ _ (by simp), show 3 + k - [Value.int .i64 o.R, .int .i64 o.N, .int .i64 o.T].length = k by simp, List.set_append_left _ _ (by rw [List.length_map, h]; exact hk), List.map_set]
theorem bits3 (x : Int) : bits BinOp.and IntKind.i64 x 3 = (mod4 x : Int) := by
  have h := mod4_le x
  have e : bits BinOp.and IntKind.i64 x 3 = IntKind.i64.wrap ((mod4 x : Nat) : Int) := rfl
  rw [e, IntKind.wrap_i64]
  omega
theorem leaf_build (x : Int) (W : World) : (Instr.build 38 #[(0, .int .i64 2), (1, .int .i64 x)]).run Tryz.prog W = .ok (.agg (VT.leaf 2 x ⟨#[]⟩).c) W := by kernel_rfl
theorem op25_build (r n t x : Int) (k : ByteArray) (W : World) : (Instr.build 40 #[(0, .agg #[.int .i64 r, .int .i64 n]), (1, .int .i64 t), (3, .int .i64 1), (5, .string k), (8, .agg (VT.leaf 2 x ⟨#[]⟩).c)]).run Tryz.prog W = .ok (.agg (opOf r n t Z0 1 0 0 k 0 0 0 (VT.leaf 2 x ⟨#[]⟩)).c) W := by kernel_rfl
section
variable (r n t saw x : Int) (w : World) (hf : Fit25 r n t saw x)
include hf
set_option maxRecDepth 100000 in
set_option maxHeartbeats 2000000 in
theorem op25_in (k : Nat) (hk : k < 64) (hr : r = (k : Int) + 1) : Calls Tryz.prog 12 #[.int .i64 r, .int .i64 n, .int .i64 t, .int .i64 saw, .int .i64 x] w fun e w' => e = .returned (opv (opv25 r n t saw x).o) ∧ Below w.heap.size w w' := by
  subst hr
  have ho : (opv25 ((k : Int) + 1) n t saw x).o = opOf ((k : Int) + 1) n t ((Z0.set 0 saw).set k (less1 n)) 1 0 0 (key25 x) 0 0 0 (VT.leaf 2 x ⟨#[]⟩) := by
    have h : seen25 ((k : Int) + 1) n saw = (Z0.set 0 saw).set k (less1 n) := by
      unfold seen25
      rw [if_pos (by omega), show ((k : Int) + 1).toNat - 1 = k by omega]
    unfold opv25
    rw [h]
  rw [ho]
  clear ho
  have HF := Lib.hid hf
  have hS := Boxes.start w
  have b1 := Lib.hid (leaf_build x)
  have b2 := Lib.hid (op25_build ((k : Int) + 1) n t x (key25 x))
  have hm := mod4_le x
  have hks := key25_size x
  have HT := Lib.hid (fun W => rtext_any (mod4 x : Int) W (by omega) (by omega))
  have h3 := bits3 x
  have hil := itoa4_len x
  have hil2 : ¬ 9223372036854775807 < 1 + (Lib.itoa (mod4 x : Int)).length := by omega
  clear hf
  go_enter Tryz.func12, Tryz.ntmps12
  go_upto_region 2 with (first | ((with_reducible refine gate_op (op := .alloc 40) rfl ?_); refine alloc_arm rfl 40 rfl (op_alloc _) ?_; intro wn hbn hgn; have hS1 := hS.new hbn hgn; (try simp only [List.nil_append, List.cons_append, List.set_cons_zero, List.set_cons_succ] at hS1); clear hS hbn hgn; have hS := hS1; clear hS1) | ((with_reducible refine gate_op (op := .build 38 #[(0, .const (.int .i64 2)), (1, .tmp 20)]) rfl ?_); refine build_arm rfl 38 #[(0, .const (.int .i64 2)), (1, .tmp 20)] rfl #[(0, .int .i64 2), (1, .int .i64 x)] (by simp only [List.map_toArray, List.map_cons, List.map_nil]; rfl) _ (b1.out _) ?_) | (go_at_call 26; (with_reducible (refine (HT.out _).mono ?_)); rintro e wn ⟨rfl, hbn⟩; have hS1 := hS.step hbn; clear hS hbn; have hS := hS1; clear hS1) | ((with_reducible refine gate_op (op := .build 40 #[(0, .tmp 14), (1, .tmp 15), (3, .const (.int .i64 1)), (5, .tmp 19), (8, .tmp 21)]) rfl ?_); refine build_arm rfl 40 #[(0, .tmp 14), (1, .tmp 15), (3, .const (.int .i64 1)), (5, .tmp 19), (8, .tmp 21)] rfl #[(0, .agg #[.int .i64 ((k : Int) + 1), .int .i64 n]), (1, .int .i64 t), (3, .int .i64 1), (5, .string (key25 x)), (8, .agg (VT.leaf 2 x ⟨#[]⟩).c)] (by simp only [List.map_toArray, List.map_cons, List.map_nil]; rfl) _ (b2.out _) ?_) | ((with_reducible refine gate_op (op := .store 40 (.tmp 11) (.tmp 22)) rfl ?_); refine wpList_store_row rfl 40 (.tmp 11) (.tmp 22) rfl _ (opOf ((k : Int) + 1) n t Z0 1 0 0 (key25 x) 0 0 0 (VT.leaf 2 x ⟨#[]⟩)).c rfl rfl 40 _ (hS.at_ 1 rfl) (op_info _ rfl) rfl (op_one rfl rfl) ?_; intro wn hbn hgn hon hsn; have hS1 := hS.put 1 rfl hon hbn hgn; (try simp only [List.nil_append, List.cons_append, List.set_cons_zero, List.set_cons_succ] at hS1); clear hS hbn hgn hon hsn; have hS := hS1; clear hS1) | go_skip)
  have hg0 := OpV.gs (o := opOf ((k : Int) + 1) n t Z0 1 0 0 (key25 x) 0 0 0 (VT.leaf 2 x ⟨#[]⟩)) rfl 0 (by decide)
  go_upto_region 3 with (first | ((with_reducible refine gate_op (op := .store 2 (.tmp 25) (.tmp 23)) rfl ?_); refine store_elem rfl 2 (.tmp 25) (.tmp 23) rfl _ (3 + 0) (.int .i64 saw) rfl rfl rfl 40 _ _ (hS.at_ 1 rfl) hg0 (by kernel_rfl) ?_; rw [set_seen _ rfl 0 (by decide)]; intro wn hgn hon hbn hsn; have hS1 := hS.put 1 rfl hon hbn hgn; simp only [List.set_cons_zero, List.set_cons_succ] at hS1; clear hS hgn hon hbn hsn; have hS := hS1; clear hS1) | go_skip)
  clear hg0
  have hw : IntKind.i64.wrap ((k : Int) + 1 - 1) = (k : Int) := by rw [IntKind.wrap_i64]; omega
  have hw2 : (k : Int) + 1 - 1 = (k : Int) := by omega
  have h1 : decide (1 ≤ (k : Int) + 1) = true := by simp; omega
  have h64 : decide ((k : Int) + 1 ≤ 64) = true := by simp; omega
  have hl1 := less1_is HF.out.n
  have hk64 : (k : Int) < 64 := by omega
  have hg := OpV.gs (o := { opOf ((k : Int) + 1) n t Z0 1 0 0 (key25 x) 0 0 0 (VT.leaf 2 x ⟨#[]⟩) with seen := Z0.set 0 saw }) (by rw [List.length_set]; rfl) k hk
  go_upto_region 5 with (first | ((with_reducible refine gate_op (op := .store 2 (.tmp 37) (.tmp 35)) rfl ?_); refine store_elem rfl 2 (.tmp 37) (.tmp 35) rfl _ (3 + k) (.int .i64 (less1 n)) rfl rfl rfl 40 _ _ (hS.at_ 1 rfl) hg (by kernel_rfl) ?_; rw [set_seen _ (by rw [List.length_set]; rfl) k hk]; intro wn hgn hon hbn hsn; have hS1 := hS.put 1 rfl hon hbn hgn; simp only [List.set_cons_zero, List.set_cons_succ] at hS1; clear hS hgn hon hbn hsn; have hS := hS1; clear hS1) | go_skip)
  have hfs : (opOf ((k : Int) + 1) n t ((Z0.set 0 saw).set k (less1 n)) 1 0 0 (key25 x) 0 0 0 (VT.leaf 2 x ⟨#[]⟩)).seen.length = 64 := by unfold opOf; rw [List.length_set]; first | rfl | (rw [List.length_set]; rfl)
  have hS2 : Boxes w _ [(_, Obj.cells zeroO.c 40), (_, Obj.cells (opOf ((k : Int) + 1) n t ((Z0.set 0 saw).set k (less1 n)) 1 0 0 (key25 x) 0 0 0 (VT.leaf 2 x ⟨#[]⟩)).c 40)] := hS
  clear hS
  have hS := hS2
  clear hS2
  have hfo : (opOf ((k : Int) + 1) n t ((Z0.set 0 saw).set k (less1 n)) 1 0 0 (key25 x) 0 0 0 (VT.leaf 2 x ⟨#[]⟩)).c.all (·.oneCell') = true := op_one rfl rfl
  generalize hFO : (opOf ((k : Int) + 1) n t ((Z0.set 0 saw).set k (less1 n)) 1 0 0 (key25 x) 0 0 0 (VT.leaf 2 x ⟨#[]⟩)) = FO at hS hfs hfo
  have HFO := Lib.hid hFO
  clear hFO
  go_wp2_with (first | ((with_reducible refine gate_op (op := .load 40 (.tmp 11)) rfl ?_); refine wpList_load_row' rfl 40 (.tmp 11) rfl _ rfl 40 _ (0, 0) _ (hS.at_ 1 rfl) Tryz.underlying40 rfl (op_info _ hfs) ?_) | ((with_reducible refine gate_op (op := .store 40 (.tmp 10) (.tmp 38)) rfl ?_); refine wpList_store_row rfl 40 (.tmp 10) (.tmp 38) rfl _ FO.c rfl rfl 40 _ (hS.at_ 0 rfl) (op_info _ hfs) ((OpV.size (o := zeroO) rfl).trans (OpV.size (o := FO) hfs).symm) hfo ?_; intro wn hbn hgn hon hsn; have hS1 := hS.put 0 rfl hon hbn hgn; (try simp only [List.nil_append, List.cons_append, List.set_cons_zero, List.set_cons_succ] at hS1); clear hS hbn hgn hon hsn; have hS := hS1; clear hS1) | go_skip)
  exact bodyPost_ret (v := opv FO) (results_cell_row rfl _ _ _ _ _ _ _ rfl (hS.at_ 0 rfl) Tryz.underlying40 rfl (op_info _ hfs)) rfl ⟨by rw [← HFO.out], hS.below⟩
set_option maxRecDepth 100000 in
set_option maxHeartbeats 2000000 in
theorem op25_out (hr : r < 1 ∨ 64 < r) : Calls Tryz.prog 12 #[.int .i64 r, .int .i64 n, .int .i64 t, .int .i64 saw, .int .i64 x] w fun e w' => e = .returned (opv (opv25 r n t saw x).o) ∧ Below w.heap.size w w' := by
  have ho : (opv25 r n t saw x).o = opOf r n t (Z0.set 0 saw) 1 0 0 (key25 x) 0 0 0 (VT.leaf 2 x ⟨#[]⟩) := by
    have h : seen25 r n saw = Z0.set 0 saw := by
      unfold seen25
      rw [if_neg (by omega)]
    unfold opv25
    rw [h]
  rw [ho]
  clear ho
  have HF := Lib.hid hf
  have hS := Boxes.start w
  have b1 := Lib.hid (leaf_build x)
  have b2 := Lib.hid (op25_build r n t x (key25 x))
  have hm := mod4_le x
  have hks := key25_size x
  have HT := Lib.hid (fun W => rtext_any (mod4 x : Int) W (by omega) (by omega))
  have h3 := bits3 x
  have hil := itoa4_len x
  have hil2 : ¬ 9223372036854775807 < 1 + (Lib.itoa (mod4 x : Int)).length := by omega
  clear hf
  go_enter Tryz.func12, Tryz.ntmps12
  go_upto_region 2 with (first | ((with_reducible refine gate_op (op := .alloc 40) rfl ?_); refine alloc_arm rfl 40 rfl (op_alloc _) ?_; intro wn hbn hgn; have hS1 := hS.new hbn hgn; (try simp only [List.nil_append, List.cons_append, List.set_cons_zero, List.set_cons_succ] at hS1); clear hS hbn hgn; have hS := hS1; clear hS1) | ((with_reducible refine gate_op (op := .build 38 #[(0, .const (.int .i64 2)), (1, .tmp 20)]) rfl ?_); refine build_arm rfl 38 #[(0, .const (.int .i64 2)), (1, .tmp 20)] rfl #[(0, .int .i64 2), (1, .int .i64 x)] (by simp only [List.map_toArray, List.map_cons, List.map_nil]; rfl) _ (b1.out _) ?_) | (go_at_call 26; (with_reducible (refine (HT.out _).mono ?_)); rintro e wn ⟨rfl, hbn⟩; have hS1 := hS.step hbn; clear hS hbn; have hS := hS1; clear hS1) | ((with_reducible refine gate_op (op := .build 40 #[(0, .tmp 14), (1, .tmp 15), (3, .const (.int .i64 1)), (5, .tmp 19), (8, .tmp 21)]) rfl ?_); refine build_arm rfl 40 #[(0, .tmp 14), (1, .tmp 15), (3, .const (.int .i64 1)), (5, .tmp 19), (8, .tmp 21)] rfl #[(0, .agg #[.int .i64 r, .int .i64 n]), (1, .int .i64 t), (3, .int .i64 1), (5, .string (key25 x)), (8, .agg (VT.leaf 2 x ⟨#[]⟩).c)] (by simp only [List.map_toArray, List.map_cons, List.map_nil]; rfl) _ (b2.out _) ?_) | ((with_reducible refine gate_op (op := .store 40 (.tmp 11) (.tmp 22)) rfl ?_); refine wpList_store_row rfl 40 (.tmp 11) (.tmp 22) rfl _ (opOf r n t Z0 1 0 0 (key25 x) 0 0 0 (VT.leaf 2 x ⟨#[]⟩)).c rfl rfl 40 _ (hS.at_ 1 rfl) (op_info _ rfl) rfl (op_one rfl rfl) ?_; intro wn hbn hgn hon hsn; have hS1 := hS.put 1 rfl hon hbn hgn; (try simp only [List.nil_append, List.cons_append, List.set_cons_zero, List.set_cons_succ] at hS1); clear hS hbn hgn hon hsn; have hS := hS1; clear hS1) | go_skip)
  have hg0 := OpV.gs (o := opOf r n t Z0 1 0 0 (key25 x) 0 0 0 (VT.leaf 2 x ⟨#[]⟩)) rfl 0 (by decide)
  go_upto_region 3 with (first | ((with_reducible refine gate_op (op := .store 2 (.tmp 25) (.tmp 23)) rfl ?_); refine store_elem rfl 2 (.tmp 25) (.tmp 23) rfl _ (3 + 0) (.int .i64 saw) rfl rfl rfl 40 _ _ (hS.at_ 1 rfl) hg0 (by kernel_rfl) ?_; rw [set_seen _ rfl 0 (by decide)]; intro wn hgn hon hbn hsn; have hS1 := hS.put 1 rfl hon hbn hgn; simp only [List.set_cons_zero, List.set_cons_succ] at hS1; clear hS hgn hon hbn hsn; have hS := hS1; clear hS1) | go_skip)
  clear hg0
  by_cases h1 : 1 ≤ r
  · have h64 : decide (r ≤ 64) = false := by simp; omega
    have hd1 : decide (1 ≤ r) = true := by simp; omega
    clear hr
    go_upto_region 5 with go_skip
    have hfs : (opOf r n t (Z0.set 0 saw) 1 0 0 (key25 x) 0 0 0 (VT.leaf 2 x ⟨#[]⟩)).seen.length = 64 := by unfold opOf; rw [List.length_set]; first | rfl | (rw [List.length_set]; rfl)
    have hS2 : Boxes w _ [(_, Obj.cells zeroO.c 40), (_, Obj.cells (opOf r n t (Z0.set 0 saw) 1 0 0 (key25 x) 0 0 0 (VT.leaf 2 x ⟨#[]⟩)).c 40)] := hS
    clear hS
    have hS := hS2
    clear hS2
    have hfo : (opOf r n t (Z0.set 0 saw) 1 0 0 (key25 x) 0 0 0 (VT.leaf 2 x ⟨#[]⟩)).c.all (·.oneCell') = true := op_one rfl rfl
    generalize hFO : (opOf r n t (Z0.set 0 saw) 1 0 0 (key25 x) 0 0 0 (VT.leaf 2 x ⟨#[]⟩)) = FO at hS hfs hfo
    have HFO := Lib.hid hFO
    clear hFO
    go_wp2_with (first | ((with_reducible refine gate_op (op := .load 40 (.tmp 11)) rfl ?_); refine wpList_load_row' rfl 40 (.tmp 11) rfl _ rfl 40 _ (0, 0) _ (hS.at_ 1 rfl) Tryz.underlying40 rfl (op_info _ hfs) ?_) | ((with_reducible refine gate_op (op := .store 40 (.tmp 10) (.tmp 38)) rfl ?_); refine wpList_store_row rfl 40 (.tmp 10) (.tmp 38) rfl _ FO.c rfl rfl 40 _ (hS.at_ 0 rfl) (op_info _ hfs) ((OpV.size (o := zeroO) rfl).trans (OpV.size (o := FO) hfs).symm) hfo ?_; intro wn hbn hgn hon hsn; have hS1 := hS.put 0 rfl hon hbn hgn; (try simp only [List.nil_append, List.cons_append, List.set_cons_zero, List.set_cons_succ] at hS1); clear hS hbn hgn hon hsn; have hS := hS1; clear hS1) | go_skip)
    exact bodyPost_ret (v := opv FO) (results_cell_row rfl _ _ _ _ _ _ _ rfl (hS.at_ 0 rfl) Tryz.underlying40 rfl (op_info _ hfs)) rfl ⟨by rw [← HFO.out], hS.below⟩
  · have hd1 : decide (1 ≤ r) = false := by simp; omega
    clear hr
    go_upto_region 5 with go_skip
    have hfs : (opOf r n t (Z0.set 0 saw) 1 0 0 (key25 x) 0 0 0 (VT.leaf 2 x ⟨#[]⟩)).seen.length = 64 := by unfold opOf; rw [List.length_set]; first | rfl | (rw [List.length_set]; rfl)
    have hS2 : Boxes w _ [(_, Obj.cells zeroO.c 40), (_, Obj.cells (opOf r n t (Z0.set 0 saw) 1 0 0 (key25 x) 0 0 0 (VT.leaf 2 x ⟨#[]⟩)).c 40)] := hS
    clear hS
    have hS := hS2
    clear hS2
    have hfo : (opOf r n t (Z0.set 0 saw) 1 0 0 (key25 x) 0 0 0 (VT.leaf 2 x ⟨#[]⟩)).c.all (·.oneCell') = true := op_one rfl rfl
    generalize hFO : (opOf r n t (Z0.set 0 saw) 1 0 0 (key25 x) 0 0 0 (VT.leaf 2 x ⟨#[]⟩)) = FO at hS hfs hfo
    have HFO := Lib.hid hFO
    clear hFO
    go_wp2_with (first | ((with_reducible refine gate_op (op := .load 40 (.tmp 11)) rfl ?_); refine wpList_load_row' rfl 40 (.tmp 11) rfl _ rfl 40 _ (0, 0) _ (hS.at_ 1 rfl) Tryz.underlying40 rfl (op_info _ hfs) ?_) | ((with_reducible refine gate_op (op := .store 40 (.tmp 10) (.tmp 38)) rfl ?_); refine wpList_store_row rfl 40 (.tmp 10) (.tmp 38) rfl _ FO.c rfl rfl 40 _ (hS.at_ 0 rfl) (op_info _ hfs) ((OpV.size (o := zeroO) rfl).trans (OpV.size (o := FO) hfs).symm) hfo ?_; intro wn hbn hgn hon hsn; have hS1 := hS.put 0 rfl hon hbn hgn; (try simp only [List.nil_append, List.cons_append, List.set_cons_zero, List.set_cons_succ] at hS1); clear hS hbn hgn hon hsn; have hS := hS1; clear hS1) | go_skip)
    exact bodyPost_ret (v := opv FO) (results_cell_row rfl _ _ _ _ _ _ _ rfl (hS.at_ 0 rfl) Tryz.underlying40 rfl (op_info _ hfs)) rfl ⟨by rw [← HFO.out], hS.below⟩
theorem op25_any : Calls Tryz.prog 12 #[.int .i64 r, .int .i64 n, .int .i64 t, .int .i64 saw, .int .i64 x] w fun e w' => e = .returned (opv (opv25 r n t saw x).o) ∧ Below w.heap.size w w' := by
  by_cases h : 1 ≤ r ∧ r ≤ 64
  · obtain ⟨k, hk⟩ : ∃ k : Nat, r = (k : Int) + 1 := ⟨(r - 1).toNat, by omega⟩
    exact op25_in r n t saw x w hf k (by omega) hk
  · exact op25_out r n t saw x w hf (by omega)
end
end Go.Proofs.YtffcpmohanhihaaGreatDoor
