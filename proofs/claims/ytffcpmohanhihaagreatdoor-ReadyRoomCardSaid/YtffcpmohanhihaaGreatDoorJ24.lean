/-
  Law 25's op, walked: an operation made of numbers. No condition beside that they fit.
  The plain law of one replica's operations one behind the other: whatever comes, however often; in the end all are taken. No condition.
-/
import Derived.Test.YtffcpmohanhihaaGreatDoorJ21
import Derived.Test.YtffcpmohanhihaaGreatDoorJ23
import Derived.Test.YtffcpmohanhihaaGreatDoorJ14
import Derived.Test.YtffcpmohanhihaaGreatDoorJ22
namespace Go.Proofs.YtffcpmohanhihaaGreatDoor
open Go.RowKit Go.Sort
set_option linter.unusedVariables false
set_option linter.unusedSimpArgs false
set_option linter.unusedSectionVars false
def mod4 (x : Int) : Nat := (BitVec.ofInt 64 x &&& BitVec.ofInt 64 3).toNat
theorem mod4_le (x : Int) : mod4 x ≤ 3 := by
  unfold mod4
  rw [BitVec.toNat_and]
  exact Nat.and_le_right
def key25 (x : Int) : ByteArray := ⟨#[107]⟩ ++ ⟨(Lib.itoa (mod4 x : Int)).toArray⟩
def less1 (n : Int) : Int := if n = -9223372036854775808 then 9223372036854775807 else n - 1
theorem less1_is {n : Int} (h : -9223372036854775808 ≤ n ∧ n ≤ 9223372036854775807) : IntKind.i64.wrap (n - 1) = less1 n := by
  rw [IntKind.wrap_i64]; unfold less1; split <;> omega
def seen25 (r n saw : Int) : List Int := if 1 ≤ r ∧ r ≤ 64 then (Z0.set 0 saw).set (r.toNat - 1) (less1 n) else Z0.set 0 saw
def opv25 (r n t saw x : Int) : OT := ⟨opOf r n t (seen25 r n saw) 1 0 0 (key25 x) 0 0 0 (VT.leaf 2 x ⟨#[]⟩), VT.leaf 2 x ⟨#[]⟩⟩
theorem seen25_len (r n saw : Int) : (seen25 r n saw).length = 64 := by
  unfold seen25
  split
  · rw [List.length_set, List.length_set]; rfl
  · rw [List.length_set]; rfl
theorem key25_size (x : Int) : (key25 x).size ≤ 2 := by
  have h := mod4_le x
  unfold key25
  generalize mod4 x = m at h
  match m, h with
  | 0, _ => exact of_decide_eq_true (by kernel_rfl)
  | 1, _ => exact of_decide_eq_true (by kernel_rfl)
  | 2, _ => exact of_decide_eq_true (by kernel_rfl)
  | 3, _ => exact of_decide_eq_true (by kernel_rfl)
theorem itoa4_len (x : Int) : (Lib.itoa (mod4 x : Int)).length ≤ 1 := by
  have h := mod4_le x
  generalize mod4 x = m at h
  match m, h with
  | 0, _ => exact of_decide_eq_true (by kernel_rfl)
  | 1, _ => exact of_decide_eq_true (by kernel_rfl)
  | 2, _ => exact of_decide_eq_true (by kernel_rfl)
  | 3, _ => exact of_decide_eq_true (by kernel_rfl)
structure Fit25 (r n t saw x : Int) : Prop where
  r : -9223372036854775808 ≤ r ∧ r ≤ 9223372036854775807
  n : -9223372036854775808 ≤ n ∧ n ≤ 9223372036854775807
  t : -9223372036854775808 ≤ t ∧ t ≤ 9223372036854775807
  s : -9223372036854775808 ≤ saw ∧ saw ≤ 9223372036854775807
  x : -9223372036854775808 ≤ x ∧ x ≤ 9223372036854775807
theorem opv25_ok {r n t saw x : Int} (h : Fit25 r n t saw x) : OT.Ok (opv25 r n t saw x) :=
  ⟨seen25_len r n saw, rfl, Nat.le_trans (key25_size x) (by decide), h.r, h.n, h.t, fun B W => VT.leaf_in B W 2 x _ h.x.1 h.x.2 (by decide) (by decide) (by decide), rfl, rfl⟩
theorem set_seen (o : OpV) (h : o.seen.length = 64) (k : Nat) (hk : k < 64) (v : Int) : o.c.setIfInBounds (3 + k) (.int .i64 v) = ({ o with seen := o.seen.set k v } : OpV).c := by
  unfold OpV.c OpV.l OpV.v
  apply Array.toList_inj.1
  rw [Array.toList_setIfInBounds]
  simp only [List.append_assoc]
  rw [List.set_append_right _ _ (by simp), show 3 + k - [Value.int .i64 o.R, .int .i64 o.N, .int .i64 o.T].length = k by simp, List.set_append_left _ _ (by rw [List.length_map, h]; exact hk), List.map_set]
theorem bits3 (x : Int) : bits BinOp.and IntKind.i64 x 3 = (mod4 x : Int) := by
  have h := mod4_le x
  have e : bits BinOp.and IntKind.i64 x 3 = IntKind.i64.wrap ((mod4 x : Nat) : Int) := rfl
  rw [e, IntKind.wrap_i64]
  omega
theorem leaf_build (x : Int) (W : World) : (Instr.build 38 #[(0, .int .i64 2), (1, .int .i64 x)]).run Tryz.prog W = .ok (.agg (VT.leaf 2 x ⟨#[]⟩).c) W := by kernel_rfl
theorem op25_build (r n t x : Int) (k : ByteArray) (W : World) : (Instr.build 40 #[(0, .agg #[.int .i64 r, .int .i64 n]), (1, .int .i64 t), (3, .int .i64 1), (5, .string k), (8, .agg (VT.leaf 2 x ⟨#[]⟩).c)]).run Tryz.prog W = .ok (.agg (opOf r n t Z0 1 0 0 k 0 0 0 (VT.leaf 2 x ⟨#[]⟩)).c) W := by kernel_rfl
section
variable (r n t saw x : Int) (w : World) (hf : Fit25 r n t saw x)
include hf
set_option maxRecDepth 100000 in
set_option maxHeartbeats 2000000 in
theorem op25_in (k : Nat) (hk : k < 64) (hr : r = (k : Int) + 1) : Calls Tryz.prog 12 #[.int .i64 r, .int .i64 n, .int .i64 t, .int .i64 saw, .int .i64 x] w fun e w' => e = .returned (opv (opv25 r n t saw x).o) ∧ Below w.heap.size w w' := by
  subst hr
  have ho : (opv25 ((k : Int) + 1) n t saw x).o = opOf ((k : Int) + 1) n t ((Z0.set 0 saw).set k (less1 n)) 1 0 0 (key25 x) 0 0 0 (VT.leaf 2 x ⟨#[]⟩) := by
    have h : seen25 ((k : Int) + 1) n saw = (Z0.set 0 saw).set k (less1 n) := by
      unfold seen25
      rw [if_pos (by omega), show ((k : Int) + 1).toNat - 1 = k by omega]
    unfold opv25
    rw [h]
  rw [ho]
  clear ho
  have HF := Lib.hid hf
  have hS := Boxes.start w
  have b1 := Lib.hid (leaf_build x)
  have b2 := Lib.hid (op25_build ((k : Int) + 1) n t x (key25 x))
  have hm := mod4_le x
  have hks := key25_size x
  have HT := Lib.hid (fun W => rtext_any (mod4 x : Int) W (by omega) (by omega))
  have h3 := bits3 x
  have hil := itoa4_len x
  have hil2 : ¬ 9223372036854775807 < 1 + (Lib.itoa (mod4 x : Int)).length := by omega
  clear hf
  go_enter Tryz.func12, Tryz.ntmps12
  go_upto_region 2 with (first | ((with_reducible refine gate_op (op := .alloc 40) rfl ?_); refine alloc_arm rfl 40 rfl (op_alloc _) ?_; intro wn hbn hgn; have hS1 := hS.new hbn hgn; (try simp only [List.nil_append, List.cons_append, List.set_cons_zero, List.set_cons_succ] at hS1); clear hS hbn hgn; have hS := hS1; clear hS1) | ((with_reducible refine gate_op (op := .build 38 #[(0, .const (.int .i64 2)), (1, .tmp 20)]) rfl ?_); refine build_arm rfl 38 #[(0, .const (.int .i64 2)), (1, .tmp 20)] rfl #[(0, .int .i64 2), (1, .int .i64 x)] (by simp only [List.map_toArray, List.map_cons, List.map_nil]; rfl) _ (b1.out _) ?_) | (go_at_call 26; (with_reducible (refine (HT.out _).mono ?_)); rintro e wn ⟨rfl, hbn⟩; have hS1 := hS.step hbn; clear hS hbn; have hS := hS1; clear hS1) | ((with_reducible refine gate_op (op := .build 40 #[(0, .tmp 14), (1, .tmp 15), (3, .const (.int .i64 1)), (5, .tmp 19), (8, .tmp 21)]) rfl ?_); refine build_arm rfl 40 #[(0, .tmp 14), (1, .tmp 15), (3, .const (.int .i64 1)), (5, .tmp 19), (8, .tmp 21)] rfl #[(0, .agg #[.int .i64 ((k : Int) + 1), .int .i64 n]), (1, .int .i64 t), (3, .int .i64 1), (5, .string (key25 x)), (8, .agg (VT.leaf 2 x ⟨#[]⟩).c)] (by simp only [List.map_toArray, List.map_cons, List.map_nil]; rfl) _ (b2.out _) ?_) | ((with_reducible refine gate_op (op := .store 40 (.tmp 11) (.tmp 22)) rfl ?_); refine wpList_store_row rfl 40 (.tmp 11) (.tmp 22) rfl _ (opOf ((k : Int) + 1) n t Z0 1 0 0 (key25 x) 0 0 0 (VT.leaf 2 x ⟨#[]⟩)).c rfl rfl 40 _ (hS.at_ 1 rfl) (op_info _ rfl) rfl (op_one rfl rfl) ?_; intro wn hbn hgn hon hsn; have hS1 := hS.put 1 rfl hon hbn hgn; (try simp only [List.nil_append, List.cons_append, List.set_cons_zero, List.set_cons_succ] at hS1); clear hS hbn hgn hon hsn; have hS := hS1; clear hS1) | go_skip)
  have hg0 := OpV.gs (o := opOf ((k : Int) + 1) n t Z0 1 0 0 (key25 x) 0 0 0 (VT.leaf 2 x ⟨#[]⟩)) rfl 0 (by decide)
  go_upto_region 3 with (first | ((with_reducible refine gate_op (op := .store 2 (.tmp 25) (.tmp 23)) rfl ?_); refine store_elem rfl 2 (.tmp 25) (.tmp 23) rfl _ (3 + 0) (.int .i64 saw) rfl rfl rfl 40 _ _ (hS.at_ 1 rfl) hg0 (by kernel_rfl) ?_; rw [set_seen _ rfl 0 (by decide)]; intro wn hgn hon hbn hsn; have hS1 := hS.put 1 rfl hon hbn hgn; simp only [List.set_cons_zero, List.set_cons_succ] at hS1; clear hS hgn hon hbn hsn; have hS := hS1; clear hS1) | go_skip)
  clear hg0
  have hw : IntKind.i64.wrap ((k : Int) + 1 - 1) = (k : Int) := by rw [IntKind.wrap_i64]; omega
  have hw2 : (k : Int) + 1 - 1 = (k : Int) := by omega
  have h1 : decide (1 ≤ (k : Int) + 1) = true := by simp; omega
  have h64 : decide ((k : Int) + 1 ≤ 64) = true := by simp; omega
  have hl1 := less1_is HF.out.n
  have hk64 : (k : Int) < 64 := by omega
  have hg := OpV.gs (o := { opOf ((k : Int) + 1) n t Z0 1 0 0 (key25 x) 0 0 0 (VT.leaf 2 x ⟨#[]⟩) with seen := Z0.set 0 saw }) (by rw [List.length_set]; rfl) k hk
  go_upto_region 5 with (first | ((with_reducible refine gate_op (op := .store 2 (.tmp 37) (.tmp 35)) rfl ?_); refine store_elem rfl 2 (.tmp 37) (.tmp 35) rfl _ (3 + k) (.int .i64 (less1 n)) rfl rfl rfl 40 _ _ (hS.at_ 1 rfl) hg (by kernel_rfl) ?_; rw [set_seen _ (by rw [List.length_set]; rfl) k hk]; intro wn hgn hon hbn hsn; have hS1 := hS.put 1 rfl hon hbn hgn; simp only [List.set_cons_zero, List.set_cons_succ] at hS1; clear hS hgn hon hbn hsn; have hS := hS1; clear hS1) | go_skip)
  have hfs : (opOf ((k : Int) + 1) n t ((Z0.set 0 saw).set k (less1 n)) 1 0 0 (key25 x) 0 0 0 (VT.leaf 2 x ⟨#[]⟩)).seen.length = 64 := by unfold opOf; rw [List.length_set]; first | rfl | (rw [List.length_set]; rfl)
  have hS2 : Boxes w _ [(_, Obj.cells zeroO.c 40), (_, Obj.cells (opOf ((k : Int) + 1) n t ((Z0.set 0 saw).set k (less1 n)) 1 0 0 (key25 x) 0 0 0 (VT.leaf 2 x ⟨#[]⟩)).c 40)] := hS
  clear hS
  have hS := hS2
  clear hS2
  have hfo : (opOf ((k : Int) + 1) n t ((Z0.set 0 saw).set k (less1 n)) 1 0 0 (key25 x) 0 0 0 (VT.leaf 2 x ⟨#[]⟩)).c.all (·.oneCell') = true := op_one rfl rfl
  generalize hFO : (opOf ((k : Int) + 1) n t ((Z0.set 0 saw).set k (less1 n)) 1 0 0 (key25 x) 0 0 0 (VT.leaf 2 x ⟨#[]⟩)) = FO at hS hfs hfo
  have HFO := Lib.hid hFO
  clear hFO
  go_wp2_with (first | ((with_reducible refine gate_op (op := .load 40 (.tmp 11)) rfl ?_); refine wpList_load_row' rfl 40 (.tmp 11) rfl _ rfl 40 _ (0, 0) _ (hS.at_ 1 rfl) Tryz.underlying40 rfl (op_info _ hfs) ?_) | ((with_reducible refine gate_op (op := .store 40 (.tmp 10) (.tmp 38)) rfl ?_); refine wpList_store_row rfl 40 (.tmp 10) (.tmp 38) rfl _ FO.c rfl rfl 40 _ (hS.at_ 0 rfl) (op_info _ hfs) ((OpV.size (o := zeroO) rfl).trans (OpV.size (o := FO) hfs).symm) hfo ?_; intro wn hbn hgn hon hsn; have hS1 := hS.put 0 rfl hon hbn hgn; (try simp only [List.nil_append, List.cons_append, List.set_cons_zero, List.set_cons_succ] at hS1); clear hS hbn hgn hon hsn; have hS := hS1; clear hS1) | go_skip)
  exact bodyPost_ret (v := opv FO) (results_cell_row rfl _ _ _ _ _ _ _ rfl (hS.at_ 0 rfl) Tryz.underlying40 rfl (op_info _ hfs)) rfl ⟨by rw [← HFO.out], hS.below⟩
set_option maxRecDepth 100000 in
set_option maxHeartbeats 2000000 in
theorem op25_out (hr : r < 1 ∨ 64 < r) : Calls Tryz.prog 12 #[.int .i64 r, .int .i64 n, .int .i64 t, .int .i64 saw, .int .i64 x] w fun e w' => e = .returned (opv (opv25 r n t saw x).o) ∧ Below w.heap.size w w' := by
  have ho : (opv25 r n t saw x).o = opOf r n t (Z0.set 0 saw) 1 0 0 (key25 x) 0 0 0 (VT.leaf 2 x ⟨#[]⟩) := by
    have h : seen25 r n saw = Z0.set 0 saw := by
      unfold seen25
      rw [if_neg (by omega)]
    unfold opv25
    rw [h]
  rw [ho]
  clear ho
  have HF := Lib.hid hf
  have hS := Boxes.start w
  have b1 := Lib.hid (leaf_build x)
  have b2 := Lib.hid (op25_build r n t x (key25 x))
  have hm := mod4_le x
  have hks := key25_size x
  have HT := Lib.hid (fun W => rtext_any (mod4 x : Int) W (by omega) (by omega))
  have h3 := bits3 x
  have hil := itoa4_len x
  have hil2 : ¬ 9223372036854775807 < 1 + (Lib.itoa (mod4 x : Int)).length := by omega
  clear hf
  go_enter Tryz.func12, Tryz.ntmps12
  go_upto_region 2 with (first | ((with_reducible refine gate_op (op := .alloc 40) rfl ?_); refine alloc_arm rfl 40 rfl (op_alloc _) ?_; intro wn hbn hgn; have hS1 := hS.new hbn hgn; (try simp only [List.nil_append, List.cons_append, List.set_cons_zero, List.set_cons_succ] at hS1); clear hS hbn hgn; have hS := hS1; clear hS1) | ((with_reducible refine gate_op (op := .build 38 #[(0, .const (.int .i64 2)), (1, .tmp 20)]) rfl ?_); refine build_arm rfl 38 #[(0, .const (.int .i64 2)), (1, .tmp 20)] rfl #[(0, .int .i64 2), (1, .int .i64 x)] (by simp only [List.map_toArray, List.map_cons, List.map_nil]; rfl) _ (b1.out _) ?_) | (go_at_call 26; (with_reducible (refine (HT.out _).mono ?_)); rintro e wn ⟨rfl, hbn⟩; have hS1 := hS.step hbn; clear hS hbn; have hS := hS1; clear hS1) | ((with_reducible refine gate_op (op := .build 40 #[(0, .tmp 14), (1, .tmp 15), (3, .const (.int .i64 1)), (5, .tmp 19), (8, .tmp 21)]) rfl ?_); refine build_arm rfl 40 #[(0, .tmp 14), (1, .tmp 15), (3, .const (.int .i64 1)), (5, .tmp 19), (8, .tmp 21)] rfl #[(0, .agg #[.int .i64 r, .int .i64 n]), (1, .int .i64 t), (3, .int .i64 1), (5, .string (key25 x)), (8, .agg (VT.leaf 2 x ⟨#[]⟩).c)] (by simp only [List.map_toArray, List.map_cons, List.map_nil]; rfl) _ (b2.out _) ?_) | ((with_reducible refine gate_op (op := .store 40 (.tmp 11) (.tmp 22)) rfl ?_); refine wpList_store_row rfl 40 (.tmp 11) (.tmp 22) rfl _ (opOf r n t Z0 1 0 0 (key25 x) 0 0 0 (VT.leaf 2 x ⟨#[]⟩)).c rfl rfl 40 _ (hS.at_ 1 rfl) (op_info _ rfl) rfl (op_one rfl rfl) ?_; intro wn hbn hgn hon hsn; have hS1 := hS.put 1 rfl hon hbn hgn; (try simp only [List.nil_append, List.cons_append, List.set_cons_zero, List.set_cons_succ] at hS1); clear hS hbn hgn hon hsn; have hS := hS1; clear hS1) | go_skip)
  have hg0 := OpV.gs (o := opOf r n t Z0 1 0 0 (key25 x) 0 0 0 (VT.leaf 2 x ⟨#[]⟩)) rfl 0 (by decide)
  go_upto_region 3 with (first | ((with_reducible refine gate_op (op := .store 2 (.tmp 25) (.tmp 23)) rfl ?_); refine store_elem rfl 2 (.tmp 25) (.tmp 23) rfl _ (3 + 0) (.int .i64 saw) rfl rfl rfl 40 _ _ (hS.at_ 1 rfl) hg0 (by kernel_rfl) ?_; rw [set_seen _ rfl 0 (by decide)]; intro wn hgn hon hbn hsn; have hS1 := hS.put 1 rfl hon hbn hgn; simp only [List.set_cons_zero, List.set_cons_succ] at hS1; clear hS hgn hon hbn hsn; have hS := hS1; clear hS1) | go_skip)
  clear hg0
  by_cases h1 : 1 ≤ r
  · have h64 : decide (r ≤ 64) = false := by simp; omega
    have hd1 : decide (1 ≤ r) = true := by simp; omega
    clear hr
    go_upto_region 5 with go_skip
    have hfs : (opOf r n t (Z0.set 0 saw) 1 0 0 (key25 x) 0 0 0 (VT.leaf 2 x ⟨#[]⟩)).seen.length = 64 := by unfold opOf; rw [List.length_set]; first | rfl | (rw [List.length_set]; rfl)
    have hS2 : Boxes w _ [(_, Obj.cells zeroO.c 40), (_, Obj.cells (opOf r n t (Z0.set 0 saw) 1 0 0 (key25 x) 0 0 0 (VT.leaf 2 x ⟨#[]⟩)).c 40)] := hS
    clear hS
    have hS := hS2
    clear hS2
    have hfo : (opOf r n t (Z0.set 0 saw) 1 0 0 (key25 x) 0 0 0 (VT.leaf 2 x ⟨#[]⟩)).c.all (·.oneCell') = true := op_one rfl rfl
    generalize hFO : (opOf r n t (Z0.set 0 saw) 1 0 0 (key25 x) 0 0 0 (VT.leaf 2 x ⟨#[]⟩)) = FO at hS hfs hfo
    have HFO := Lib.hid hFO
    clear hFO
    go_wp2_with (first | ((with_reducible refine gate_op (op := .load 40 (.tmp 11)) rfl ?_); refine wpList_load_row' rfl 40 (.tmp 11) rfl _ rfl 40 _ (0, 0) _ (hS.at_ 1 rfl) Tryz.underlying40 rfl (op_info _ hfs) ?_) | ((with_reducible refine gate_op (op := .store 40 (.tmp 10) (.tmp 38)) rfl ?_); refine wpList_store_row rfl 40 (.tmp 10) (.tmp 38) rfl _ FO.c rfl rfl 40 _ (hS.at_ 0 rfl) (op_info _ hfs) ((OpV.size (o := zeroO) rfl).trans (OpV.size (o := FO) hfs).symm) hfo ?_; intro wn hbn hgn hon hsn; have hS1 := hS.put 0 rfl hon hbn hgn; (try simp only [List.nil_append, List.cons_append, List.set_cons_zero, List.set_cons_succ] at hS1); clear hS hbn hgn hon hsn; have hS := hS1; clear hS1) | go_skip)
    exact bodyPost_ret (v := opv FO) (results_cell_row rfl _ _ _ _ _ _ _ rfl (hS.at_ 0 rfl) Tryz.underlying40 rfl (op_info _ hfs)) rfl ⟨by rw [← HFO.out], hS.below⟩
  · have hd1 : decide (1 ≤ r) = false := by simp; omega
    clear hr
    go_upto_region 5 with go_skip
    have hfs : (opOf r n t (Z0.set 0 saw) 1 0 0 (key25 x) 0 0 0 (VT.leaf 2 x ⟨#[]⟩)).seen.length = 64 := by unfold opOf; rw [List.length_set]; first | rfl | (rw [List.length_set]; rfl)
    have hS2 : Boxes w _ [(_, Obj.cells zeroO.c 40), (_, Obj.cells (opOf r n t (Z0.set 0 saw) 1 0 0 (key25 x) 0 0 0 (VT.leaf 2 x ⟨#[]⟩)).c 40)] := hS
    clear hS
    have hS := hS2
    clear hS2
    have hfo : (opOf r n t (Z0.set 0 saw) 1 0 0 (key25 x) 0 0 0 (VT.leaf 2 x ⟨#[]⟩)).c.all (·.oneCell') = true := op_one rfl rfl
    generalize hFO : (opOf r n t (Z0.set 0 saw) 1 0 0 (key25 x) 0 0 0 (VT.leaf 2 x ⟨#[]⟩)) = FO at hS hfs hfo
    have HFO := Lib.hid hFO
    clear hFO
    go_wp2_with (first | ((with_reducible refine gate_op (op := .load 40 (.tmp 11)) rfl ?_); refine wpList_load_row' rfl 40 (.tmp 11) rfl _ rfl 40 _ (0, 0) _ (hS.at_ 1 rfl) Tryz.underlying40 rfl (op_info _ hfs) ?_) | ((with_reducible refine gate_op (op := .store 40 (.tmp 10) (.tmp 38)) rfl ?_); refine wpList_store_row rfl 40 (.tmp 10) (.tmp 38) rfl _ FO.c rfl rfl 40 _ (hS.at_ 0 rfl) (op_info _ hfs) ((OpV.size (o := zeroO) rfl).trans (OpV.size (o := FO) hfs).symm) hfo ?_; intro wn hbn hgn hon hsn; have hS1 := hS.put 0 rfl hon hbn hgn; (try simp only [List.nil_append, List.cons_append, List.set_cons_zero, List.set_cons_succ] at hS1); clear hS hbn hgn hon hsn; have hS := hS1; clear hS1) | go_skip)
    exact bodyPost_ret (v := opv FO) (results_cell_row rfl _ _ _ _ _ _ _ rfl (hS.at_ 0 rfl) Tryz.underlying40 rfl (op_info _ hfs)) rfl ⟨by rw [← HFO.out], hS.below⟩
theorem op25_any : Calls Tryz.prog 12 #[.int .i64 r, .int .i64 n, .int .i64 t, .int .i64 saw, .int .i64 x] w fun e w' => e = .returned (opv (opv25 r n t saw x).o) ∧ Below w.heap.size w w' := by
  by_cases h : 1 ≤ r ∧ r ≤ 64
  · obtain ⟨k, hk⟩ : ∃ k : Nat, r = (k : Int) + 1 := ⟨(r - 1).toNat, by omega⟩
    exact op25_in r n t saw x w hf k (by omega) hk
  · exact op25_out r n t saw x w hf (by omega)
end
end Go.Proofs.YtffcpmohanhihaaGreatDoor
namespace Go.Proofs.YtffcpmohanhihaaGreatDoor
open Go.RowKit
set_option linter.unusedVariables false
set_option linter.unusedSimpArgs false
/-- The first replica's so-manieth. -/
def opi (j : Nat) : OT := opv25 1 (j : Int) (j : Int) ((j : Int) - 1) 1
theorem opi_fit {j : Nat} (h : j ≤ 1000) : Fit25 1 (j : Int) (j : Int) ((j : Int) - 1) 1 :=
  ⟨by omega, by omega, by omega, by omega, by omega⟩
theorem opi_ok {j : Nat} (h : j ≤ 1000) : OT.Ok (opi j) := opv25_ok (opi_fit h)
theorem opi_can (j : Nat) : (opi j).can = opi j := rfl
theorem opi_m (j : Nat) : (opi j).o.M = 0 := rfl
def vm (m : Nat) : List Int := Z64.set 0 (m : Int)
theorem chk_good : ((List.range 40).all fun j => (opi (j + 1)).good) = true := by kernel_rfl
theorem chk_cov : ((List.range 41).all fun m => (List.range 40).all fun j => coversB (vm m) (opi (j + 1)).o.seen == decide (j ≤ m)) = true := by kernel_rfl
theorem chk_has : ((List.range 41).all fun m => (List.range 40).all fun j => hasB (vm m) 1 ((j + 1 : Nat) : Int) == decide (j + 1 ≤ m)) = true := by kernel_rfl
theorem chk_with : ((List.range 40).all fun m => (withOf (vm m) 1 ((m + 1 : Nat) : Int)).1 == vm (m + 1)) = true := by kernel_rfl
theorem chk_seen : ((List.range 40).all fun j => (List.range 64).all fun k => vat (opi (j + 1)).o.seen k == if k = 0 then (j : Int) else 0) = true := by kernel_rfl
theorem all_at {n : Nat} {f : Nat → Bool} (h : (List.range n).all f = true) {j : Nat} (hj : j < n) : f j = true := List.all_eq_true.1 h j (List.mem_range.2 hj)
theorem opi_good {j : Nat} (h : j < 40) : (opi (j + 1)).good = true := all_at chk_good h
theorem opi_cov {m j : Nat} (hm : m ≤ 40) (h : j < 40) : coversB (vm m) (opi (j + 1)).o.seen = decide (j ≤ m) := by
  have := all_at (all_at chk_cov (j := m) (by omega)) h
  exact beq_iff_eq.1 this
theorem opi_has {m j : Nat} (hm : m ≤ 40) (h : j < 40) : hasB (vm m) (opi (j + 1)).o.R (opi (j + 1)).o.N = decide (j + 1 ≤ m) := by
  have := all_at (all_at chk_has (j := m) (by omega)) h
  exact beq_iff_eq.1 this
theorem opi_with {m : Nat} (hm : m < 40) : (withOf (vm m) (opi (m + 1)).o.R (opi (m + 1)).o.N).1 = vm (m + 1) := beq_iff_eq.1 (all_at chk_with hm)
theorem opi_seen {j k : Nat} (h : j < 40) (hk : k < 64) : vat (opi (j + 1)).o.seen k = if k = 0 then (j : Int) else 0 := by
  have := all_at (all_at chk_seen h) hk
  exact beq_iff_eq.1 this
theorem opi_inj {i j : Nat} (h : opi i = opi j) : i = j := by
  have : (opi i).o.N = (opi j).o.N := congrArg (fun x : OT => x.o.N) h
  have h2 : (i : Int) = (j : Int) := this
  omega
/-- The document has the first replica's first m, and nothing else. -/
structure SI (m : Nat) (s : DocS) : Prop where
  v : s.v = vm m
  tm : ∀ i, 1 ≤ i → i ≤ m → timeOf s.l (1, (i : Int)) = (i : Int)
theorem s0_SI : SI 0 s0 := ⟨by kernel_rfl, fun i h1 h2 => by omega⟩
theorem saw_opi {m j : Nat} {s : DocS} (h : SI m s) (hj : j < 40) (hjm : j ≤ m) : sawT s.l (opi (j + 1)).o.seen = (j : Int) := by
  have key : ∀ k, k < 64 → sawTo s.l (opi (j + 1)).o.seen (k + 1) = (j : Int) := by
    intro k
    induction k with
    | zero =>
      intro _
      have hv := opi_seen (k := 0) hj (by decide)
      rw [if_pos rfl] at hv
      rw [sawTo_succ, hv]
      show (if 0 < (j : Int) then (if (0 : Int) < timeOf s.l (((0 : Nat) : Int) + 1, (j : Int)) then timeOf s.l (((0 : Nat) : Int) + 1, (j : Int)) else 0) else 0) = (j : Int)
      by_cases h0 : 0 < (j : Int)
      · rw [if_pos h0, show ((0 : Nat) : Int) + 1 = 1 by rfl, h.tm j (by omega) hjm, if_pos h0]
      · rw [if_neg h0]; omega
    | succ k ih =>
      intro hk
      have hv := opi_seen (k := k + 1) hj hk
      rw [if_neg (by omega)] at hv
      rw [sawTo_succ, hv, if_neg (by decide)]
      exact ih (by omega)
  exact key 63 (by decide)
theorem may_opi {m : Nat} {s : DocS} (h : SI m s) (hm : m < 40) : mayB s (opi (m + 1)) = true := by
  unfold mayB
  rw [saw_opi h hm (Nat.le_refl _)]
  have hT : (opi (m + 1)).o.T = ((m + 1 : Nat) : Int) := rfl
  have hk : objkey (opi (m + 1)) = zID := rfl
  rw [hT, hk]
  simp
  omega
theorem apply_opi {m j : Nat} {s : DocS} (h : SI m s) (hm : m ≤ 40) (hj : j < 40) : applyE s (opi (j + 1)) = if j + 1 ≤ m then 5 else if j = m then 0 else 9 := by
  unfold applyE
  rw [opi_good hj, if_neg (by decide), h.v, opi_has hm hj, opi_cov hm hj]
  by_cases h1 : j + 1 ≤ m
  · rw [if_pos (by simpa using h1), if_pos h1]
  · rw [if_neg (by simpa using h1), if_neg h1]
    by_cases h2 : j = m
    · subst h2
      rw [if_neg (by simp), may_opi h hj, if_neg (by decide), if_pos rfl]
    · rw [if_pos (by rw [decide_eq_false_iff_not]; omega), if_neg h2]
theorem take_SI {m : Nat} {s : DocS} (h : SI m s) (hm : m < 40) : SI (m + 1) (takeF s (opi (m + 1))) := by
  refine ⟨?_, fun i h1 h2 => ?_⟩
  · show (withOf s.v (opi (m + 1)).o.R (opi (m + 1)).o.N).1 = _
    rw [h.v, opi_with hm]
  · show timeOf (assocPut s.l (okey (opi (m + 1))) (opi (m + 1))) (1, (i : Int)) = _
    unfold timeOf
    rw [assoc_put]
    by_cases e : i = m + 1
    · subst e
      have e : okey (opi (m + 1)) = ((1 : Int), ((m + 1 : Nat) : Int)) := rfl
      rw [if_pos e]
      rfl
    · have hne : okey (opi (m + 1)) ≠ ((1 : Int), (i : Int)) := fun q => by
        have : ((m + 1 : Nat) : Int) = (i : Int) := congrArg Prod.snd q
        omega
      rw [if_neg hne]
      exact h.tm i h1 (by omega)
def AllIn (n : Nat) (L : List OT) : Prop := ∀ x ∈ L, ∃ j, j < n ∧ x = opi (j + 1)
/-- What stands between two Adds. -/
structure Inv25 (n m : Nat) (s : DocS) (L : List OT) : Prop where
  hn : n ≤ 40
  hm : m ≤ n
  si : SI m s
  l : AllIn n L
  up : ∀ j, opi (j + 1) ∈ L → m < j
def Has (i m : Nat) (L : List OT) : Prop := i + 1 ≤ m ∨ opi (i + 1) ∈ L
theorem delO_mem {x : OT} {i : Nat} {L : List OT} (h : x ∈ delO i L) : x ∈ L := by
  unfold delO at h
  rcases List.mem_append.1 h with h | h
  · exact List.mem_of_mem_take h
  · exact List.mem_of_mem_drop h
theorem mem_delO {x y : OT} {i : Nat} {L : List OT} (h : x ∈ L) (hi : L[i]? = some y) (hne : x ≠ y) : x ∈ delO i L := by
  obtain ⟨k, hk⟩ := List.mem_iff_getElem?.1 h
  unfold delO
  by_cases h1 : k < i
  · refine List.mem_append_left _ (List.mem_iff_getElem?.2 ⟨k, ?_⟩)
    rw [List.getElem?_take, if_pos h1]; exact hk
  · by_cases h2 : k = i
    · subst h2; rw [hk] at hi; exact absurd (Option.some.inj hi) hne
    · refine List.mem_append_right _ (List.mem_iff_getElem?.2 ⟨k - (i + 1), ?_⟩)
      rw [List.getElem?_drop, show i + 1 + (k - (i + 1)) = k by omega]; exact hk
theorem firstI_all {s : DocS} : ∀ {L : List OT}, firstI s L = L.length → ∀ x ∈ L, applyE s x = 9
  | [], _, x, hx => by cases hx
  | a :: L, h, x, hx => by
    unfold firstI at h
    rw [List.takeWhile_cons] at h
    split at h
    · rename_i e
      rcases List.mem_cons.1 hx with rfl | hx
      · exact beq_iff_eq.1 e
      · refine firstI_all (L := L) ?_ x hx
        unfold firstI
        simpa using h
    · simp at h
theorem firstI_not {s : DocS} : ∀ {L : List OT} {x : OT}, L[firstI s L]? = some x → applyE s x ≠ 9
  | [], x, h => by cases h
  | a :: L, x, h => by
    unfold firstI at h
    rw [List.takeWhile_cons] at h
    split at h
    · refine firstI_not (L := L) (x := x) ?_
      unfold firstI
      simpa using h
    · rename_i e
      have : a = x := by simpa using h
      subst this
      simpa using e
theorem drain_inv {n : Nat} (hn : n ≤ 40) : ∀ (k m : Nat) (s : DocS) (L : List OT) (c : Int), L.length = k → m ≤ n → SI m s → AllIn n L →
    ∃ m', Inv25 n m' (drainF k s L c).1 (drainF k s L c).2.1 ∧ m ≤ m' ∧ (∀ i, Has i m L → Has i m' (drainF k s L c).2.1) ∧ (drainF k s L c).2.1.length ≤ L.length
  | 0, m, s, L, c, hl, hm, hs, ha => ⟨m, ⟨hn, hm, hs, ha, fun j hj => by
      have : L = [] := List.length_eq_zero_iff.1 hl
      subst this; cases hj⟩, Nat.le_refl _, fun i h => h, Nat.le_refl _⟩
  | k + 1, m, s, L, c, hl, hm, hs, ha => by
    cases hx : L[firstI s L]? with
    | none =>
      have e : drainF (k + 1) s L c = (s, L, c) := by
        show (match L[firstI s L]? with
          | none => (s, L, c)
          | some x => drainF k (appF s x) (delO (firstI s L) L) (if applyE s x = 0 then c + 1 else c)) = _
        rw [hx]
      rw [e]
      have hf : firstI s L = L.length := by have := List.getElem?_eq_none_iff.1 hx; have := firstI_le s L; omega
      refine ⟨m, ⟨hn, hm, hs, ha, fun j hj => ?_⟩, Nat.le_refl _, fun i h => h, Nat.le_refl _⟩
      obtain ⟨j', hj', e⟩ := ha _ hj
      obtain rfl : j = j' := by have := opi_inj e; omega
      have h9 := firstI_all hf _ hj
      rw [apply_opi hs (by omega) (by omega)] at h9
      split at h9
      · cases h9
      · split at h9
        · cases h9
        · omega
    | some x =>
      have e : drainF (k + 1) s L c = drainF k (appF s x) (delO (firstI s L) L) (if applyE s x = 0 then c + 1 else c) := by
        show (match L[firstI s L]? with
          | none => (s, L, c)
          | some x => drainF k (appF s x) (delO (firstI s L) L) (if applyE s x = 0 then c + 1 else c)) = _
        rw [hx]
      rw [e]
      have hlt := (List.getElem?_eq_some_iff.1 hx).1
      have hd := delO_len hlt
      obtain ⟨j, hj, rfl⟩ := ha x (List.mem_of_getElem? hx)
      have h9 := firstI_not hx
      have hap := apply_opi hs (m := m) (by omega) (show j < 40 by omega)
      have hda : AllIn n (delO (firstI s L) L) := fun y hy => ha y (delO_mem hy)
      by_cases h1 : j + 1 ≤ m
      · rw [if_pos h1] at hap
        have es : appF s (opi (j + 1)) = s := by unfold appF; rw [hap, if_neg (by decide)]
        rw [es]
        obtain ⟨m', hI, hmm, hh, hll⟩ := drain_inv hn k m s (delO (firstI s L) L) (if applyE s (opi (j + 1)) = 0 then c + 1 else c) (by omega) hm hs hda
        refine ⟨m', hI, hmm, fun i hi => hh i ?_, by omega⟩
        rcases hi with hi | hi
        · exact .inl hi
        · by_cases q : i = j
          · exact .inl (by omega)
          · exact .inr (mem_delO hi hx fun q2 => q (by have := opi_inj q2; omega))
      · rw [if_neg h1] at hap
        by_cases h2 : j = m
        · subst h2
          rw [if_pos rfl] at hap
          have es : appF s (opi (j + 1)) = takeF s (opi (j + 1)) := by unfold appF; rw [hap, if_pos rfl]
          rw [es]
          obtain ⟨m', hI, hmm, hh, hll⟩ := drain_inv hn k (j + 1) _ (delO (firstI s L) L) (if applyE s (opi (j + 1)) = 0 then c + 1 else c) (by omega) (by omega) (take_SI hs (by omega)) hda
          refine ⟨m', hI, by omega, fun i hi => hh i ?_, by omega⟩
          rcases hi with hi | hi
          · exact .inl (by omega)
          · by_cases q : i = j
            · exact .inl (by omega)
            · exact .inr (mem_delO hi hx fun q2 => q (by have := opi_inj q2; omega))
        · rw [if_neg h2] at hap
          exact absurd hap h9
theorem insO_mem {x y : OT} {i : Nat} {L : List OT} : x ∈ insO i y L ↔ x = y ∨ x ∈ L := by
  unfold insO
  rw [List.mem_append, List.mem_cons]
  constructor
  · rintro (h | h | h)
    · exact .inr (List.mem_of_mem_take h)
    · exact .inl h
    · exact .inr (List.mem_of_mem_drop h)
  · rintro (h | h)
    · exact .inr (.inl h)
    · rw [← List.take_append_drop i L] at h
      rcases List.mem_append.1 h with h | h
      · exact .inl h
      · exact .inr (.inr h)
theorem add_inv {n m : Nat} {s : DocS} {L : List OT} (h : Inv25 n m s L) {j : Nat} (hj : j < n) (hl : L.length < 256) :
    ∃ m', Inv25 n m' (addF s L (opi (j + 1))).s (addF s L (opi (j + 1))).L ∧ (∀ i, Has i m L → Has i m' (addF s L (opi (j + 1))).L) ∧ Has j m' (addF s L (opi (j + 1))).L ∧ (addF s L (opi (j + 1))).L.length ≤ L.length + 1 := by
  have hn := h.hn
  have hap := apply_opi h.si (show m ≤ 40 by have := h.hm; omega) (show j < 40 by omega)
  unfold addF
  by_cases h1 : j + 1 ≤ m
  · rw [if_pos h1] at hap
    rw [hap, if_neg (by decide), if_neg (by decide)]
    exact ⟨m, h, fun i hi => hi, .inl h1, Nat.le_succ _⟩
  · rw [if_neg h1] at hap
    by_cases h2 : j = m
    · subst h2
      rw [if_pos rfl] at hap
      rw [hap, if_neg (by decide), if_pos rfl]
      obtain ⟨m', hI, hmm, hh, hll⟩ := drain_inv hn L.length (j + 1) _ L 1 rfl (by omega) (take_SI h.si (by omega)) h.l
      refine ⟨m', hI, fun i hi => hh i ?_, .inl (by omega), ?_⟩
      · rcases hi with hi | hi
        · exact .inl (by omega)
        · exact .inr hi
      · show (drainF L.length (takeF s (opi (j + 1))) L 1).2.1.length ≤ _
        omega
    · rw [if_neg h2] at hap
      rw [hap, if_pos rfl]
      unfold waitF
      cases ht : twiceB (opi (j + 1)) L with
      | true =>
        rw [if_pos rfl]
        refine ⟨m, h, fun i hi => hi, ?_, Nat.le_succ _⟩
        unfold twiceB at ht
        cases hz : L[posI (opi (j + 1)) L]? with
        | none => rw [hz] at ht; cases ht
        | some z =>
          rw [hz] at ht
          have ht : sameI z (opi (j + 1)) = true := ht
          have hm := List.mem_of_getElem? hz
          obtain ⟨j', hj', rfl⟩ := h.l z hm
          unfold sameI at ht
          have e : (opi (j' + 1)).o.N = (opi (j + 1)).o.N := beq_iff_eq.1 (Bool.and_eq_true_iff.1 ht).2
          have e : ((j' + 1 : Nat) : Int) = ((j + 1 : Nat) : Int) := e
          obtain rfl : j' = j := by omega
          exact .inr hm
      | false =>
        rw [if_neg (by decide), if_neg (by omega)]
        refine ⟨m, ⟨hn, h.hm, h.si, fun x hx => ?_, fun i hi => ?_⟩, fun i hi => ?_, .inr (insO_mem.2 (.inl rfl)), ?_⟩
        · rcases insO_mem.1 hx with rfl | hx
          · exact ⟨j, hj, rfl⟩
          · exact h.l x hx
        · rcases insO_mem.1 hi with q | q
          · have := opi_inj q; omega
          · exact h.up i q
        · rcases hi with hi | hi
          · exact .inl hi
          · exact .inr (insO_mem.2 (.inr hi))
        · show (insO (posI (opi (j + 1)) L) (opi (j + 1)) L).length ≤ _
          rw [insO_len (posI_le _ _)]
          exact Nat.le_refl _
/-- All were added: all are taken. -/
theorem inv_end {n m : Nat} {s : DocS} {L : List OT} (h : Inv25 n m s L) (hh : ∀ i, i < n → Has i m L) : m = n ∧ L = [] := by
  have hm := h.hm
  have e : m = n := by
    by_cases q : m < n
    · rcases hh m q with q2 | q2
      · omega
      · have := h.up m q2; omega
    · omega
  refine ⟨e, ?_⟩
  cases L with
  | nil => rfl
  | cons x L =>
    obtain ⟨j, hj, rfl⟩ := h.l x (List.mem_cons_self ..)
    have := h.up j (List.mem_cons_self ..)
    omega
end Go.Proofs.YtffcpmohanhihaaGreatDoor
