/-
  Law 25's op, walked: an operation made of numbers. No condition beside that they fit.
  Law 25's own first look: what it does of known operations.
  ReadyKnown, walked.
-/
import Derived.Test.YtffcpmohanhihaaGreatDoorJ22
import Derived.Test.YtffcpmohanhihaaGreatDoorJ24
import Derived.Test.YtffcpmohanhihaaGreatDoorJ19
import Derived.Test.YtffcpmohanhihaaGreatDoorJ23
namespace Go.Proofs.YtffcpmohanhihaaGreatDoor
open Go.RowKit Go.Sort
set_option linter.unusedVariables false
set_option linter.unusedSimpArgs false
set_option linter.unusedSectionVars false
def mod4 (x : Int) : Nat := (BitVec.ofInt 64 x &&& BitVec.ofInt 64 3).toNat
theorem mod4_le (x : Int) : mod4 x ≤ 3 := by
  unfold mod4
  rw [BitVec.toNat_and]
  exact Nat.and_le_right
def key25 (x : Int) : ByteArray := ⟨#[107]⟩ ++ ⟨(Lib.itoa (mod4 x : Int)).toArray⟩
def less1 (n : Int) : Int := if n = -9223372036854775808 then 9223372036854775807 else n - 1
theorem less1_is {n : Int} (h : -9223372036854775808 ≤ n ∧ n ≤ 9223372036854775807) : IntKind.i64.wrap (n - 1) = less1 n := by
  rw [IntKind.wrap_i64]; unfold less1; split <;> omega
def seen25 (r n saw : Int) : List Int := if 1 ≤ r ∧ r ≤ 64 then (Z0.set 0 saw).set (r.toNat - 1) (less1 n) else Z0.set 0 saw
def opv25 (r n t saw x : Int) : OT := ⟨opOf r n t (seen25 r n saw) 1 0 0 (key25 x) 0 0 0 (VT.leaf 2 x ⟨#[]⟩), VT.leaf 2 x ⟨#[]⟩⟩
theorem seen25_len (r n saw : Int) : (seen25 r n saw).length = 64 := by
  unfold seen25
  split
  · rw [List.length_set, List.length_set]; rfl
  · rw [List.length_set]; rfl
theorem key25_size (x : Int) : (key25 x).size ≤ 2 := by
  have h := mod4_le x
  unfold key25
  generalize mod4 x = m at h
  match m, h with
  | 0, _ => exact of_decide_eq_true (by kernel_rfl)
  | 1, _ => exact of_decide_eq_true (by kernel_rfl)
  | 2, _ => exact of_decide_eq_true (by kernel_rfl)
  | 3, _ => exact of_decide_eq_true (by kernel_rfl)
theorem itoa4_len (x : Int) : (Lib.itoa (mod4 x : Int)).length ≤ 1 := by
  have h := mod4_le x
  generalize mod4 x = m at h
  match m, h with
  | 0, _ => exact of_decide_eq_true (by kernel_rfl)
  | 1, _ => exact of_decide_eq_true (by kernel_rfl)
  | 2, _ => exact of_decide_eq_true (by kernel_rfl)
  | 3, _ => exact of_decide_eq_true (by kernel_rfl)
structure Fit25 (r n t saw x : Int) : Prop where
  r : -9223372036854775808 ≤ r ∧ r ≤ 9223372036854775807
  n : -9223372036854775808 ≤ n ∧ n ≤ 9223372036854775807
  t : -9223372036854775808 ≤ t ∧ t ≤ 9223372036854775807
  s : -9223372036854775808 ≤ saw ∧ saw ≤ 9223372036854775807
  x : -9223372036854775808 ≤ x ∧ x ≤ 9223372036854775807
theorem opv25_ok {r n t saw x : Int} (h : Fit25 r n t saw x) : OT.Ok (opv25 r n t saw x) :=
  ⟨seen25_len r n saw, rfl, Nat.le_trans (key25_size x) (by decide), h.r, h.n, h.t, fun B W => VT.leaf_in B W 2 x _ h.x.1 h.x.2 (by decide) (by decide) (by decide), rfl, rfl⟩
theorem set_seen (o : OpV) (h : o.seen.length = 64) (k : Nat) (hk : k < 64) (v : Int) : o.c.setIfInBounds (3 + k) (.int .i64 v) = ({ o with seen := o.seen.set k v } : OpV).c := by
  unfold OpV.c OpV.l OpV.v
  apply Array.toList_inj.1
  rw [Array.toList_setIfInBounds]
  simp only [List.append_assoc]
  rw [List.set_append_right _ _ (by simp), show 3 + k - [Value.int .i64 o.R, .int .i64 o.N, .int .i64 o.T].length = k by simp, List.set_append_left _ _ (by rw [List.length_map, h]; exact hk), List.map_set]
theorem bits3 (x : Int) : bits BinOp.and IntKind.i64 x 3 = (mod4 x : Int) := by
  have h := mod4_le x
  have e : bits BinOp.and IntKind.i64 x 3 = IntKind.i64.wrap ((mod4 x : Nat) : Int) := rfl
  rw [e, IntKind.wrap_i64]
  omega
theorem leaf_build (x : Int) (W : World) : (Instr.build 38 #[(0, .int .i64 2), (1, .int .i64 x)]).run Tryz.prog W = .ok (.agg (VT.leaf 2 x ⟨#[]⟩).c) W := by kernel_rfl
theorem op25_build (r n t x : Int) (k : ByteArray) (W : World) : (Instr.build 40 #[(0, .agg #[.int .i64 r, .int .i64 n]), (1, .int .i64 t), (3, .int .i64 1), (5, .string k), (8, .agg (VT.leaf 2 x ⟨#[]⟩).c)]).run Tryz.prog W = .ok (.agg (opOf r n t Z0 1 0 0 k 0 0 0 (VT.leaf 2 x ⟨#[]⟩)).c) W := by kernel_rfl
section
variable (r n t saw x : Int) (w : World) (hf : Fit25 r n t saw x)
include hf
set_option maxRecDepth 100000 in
set_option maxHeartbeats 2000000 in
theorem op25_in (k : Nat) (hk : k < 64) (hr : r = (k : Int) + 1) : Calls Tryz.prog 12 #[.int .i64 r, .int .i64 n, .int .i64 t, .int .i64 saw, .int .i64 x] w fun e w' => e = .returned (opv (opv25 r n t saw x).o) ∧ Below w.heap.size w w' := by
  subst hr
  have ho : (opv25 ((k : Int) + 1) n t saw x).o = opOf ((k : Int) + 1) n t ((Z0.set 0 saw).set k (less1 n)) 1 0 0 (key25 x) 0 0 0 (VT.leaf 2 x ⟨#[]⟩) := by
    have h : seen25 ((k : Int) + 1) n saw = (Z0.set 0 saw).set k (less1 n) := by
      unfold seen25
      rw [if_pos (by omega), show ((k : Int) + 1).toNat - 1 = k by omega]
    unfold opv25
    rw [h]
  rw [ho]
  clear ho
  have HF := Lib.hid hf
  have hS := Boxes.start w
  have b1 := Lib.hid (leaf_build x)
  have b2 := Lib.hid (op25_build ((k : Int) + 1) n t x (key25 x))
  have hm := mod4_le x
  have hks := key25_size x
  have HT := Lib.hid (fun W => rtext_any (mod4 x : Int) W (by omega) (by omega))
  have h3 := bits3 x
  have hil := itoa4_len x
  have hil2 : ¬ 9223372036854775807 < 1 + (Lib.itoa (mod4 x : Int)).length := by omega
  clear hf
  go_enter Tryz.func12, Tryz.ntmps12
  go_upto_region 2 with (first | ((with_reducible refine gate_op (op := .alloc 40) rfl ?_); refine alloc_arm rfl 40 rfl (op_alloc _) ?_; intro wn hbn hgn; have hS1 := hS.new hbn hgn; (try simp only [List.nil_append, List.cons_append, List.set_cons_zero, List.set_cons_succ] at hS1); clear hS hbn hgn; have hS := hS1; clear hS1) | ((with_reducible refine gate_op (op := .build 38 #[(0, .const (.int .i64 2)), (1, .tmp 20)]) rfl ?_); refine build_arm rfl 38 #[(0, .const (.int .i64 2)), (1, .tmp 20)] rfl #[(0, .int .i64 2), (1, .int .i64 x)] (by simp only [List.map_toArray, List.map_cons, List.map_nil]; rfl) _ (b1.out _) ?_) | (go_at_call 26; (with_reducible (refine (HT.out _).mono ?_)); rintro e wn ⟨rfl, hbn⟩; have hS1 := hS.step hbn; clear hS hbn; have hS := hS1; clear hS1) | ((with_reducible refine gate_op (op := .build 40 #[(0, .tmp 14), (1, .tmp 15), (3, .const (.int .i64 1)), (5, .tmp 19), (8, .tmp 21)]) rfl ?_); refine build_arm rfl 40 #[(0, .tmp 14), (1, .tmp 15), (3, .const (.int .i64 1)), (5, .tmp 19), (8, .tmp 21)] rfl #[(0, .agg #[.int .i64 ((k : Int) + 1), .int .i64 n]), (1, .int .i64 t), (3, .int .i64 1), (5, .string (key25 x)), (8, .agg (VT.leaf 2 x ⟨#[]⟩).c)] (by simp only [List.map_toArray, List.map_cons, List.map_nil]; rfl) _ (b2.out _) ?_) | ((with_reducible refine gate_op (op := .store 40 (.tmp 11) (.tmp 22)) rfl ?_); refine wpList_store_row rfl 40 (.tmp 11) (.tmp 22) rfl _ (opOf ((k : Int) + 1) n t Z0 1 0 0 (key25 x) 0 0 0 (VT.leaf 2 x ⟨#[]⟩)).c rfl rfl 40 _ (hS.at_ 1 rfl) (op_info _ rfl) rfl (op_one rfl rfl) ?_; intro wn hbn hgn hon hsn; have hS1 := hS.put 1 rfl hon hbn hgn; (try simp only [List.nil_append, List.cons_append, List.set_cons_zero, List.set_cons_succ] at hS1); clear hS hbn hgn hon hsn; have hS := hS1; clear hS1) | go_skip)
  have hg0 := OpV.gs (o := opOf ((k : Int) + 1) n t Z0 1 0 0 (key25 x) 0 0 0 (VT.leaf 2 x ⟨#[]⟩)) rfl 0 (by decide)
  go_upto_region 3 with (first | ((with_reducible refine gate_op (op := .store 2 (.tmp 25) (.tmp 23)) rfl ?_); refine store_elem rfl 2 (.tmp 25) (.tmp 23) rfl _ (3 + 0) (.int .i64 saw) rfl rfl rfl 40 _ _ (hS.at_ 1 rfl) hg0 (by kernel_rfl) ?_; rw [set_seen _ rfl 0 (by decide)]; intro wn hgn hon hbn hsn; have hS1 := hS.put 1 rfl hon hbn hgn; simp only [List.set_cons_zero, List.set_cons_succ] at hS1; clear hS hgn hon hbn hsn; have hS := hS1; clear hS1) | go_skip)
  clear hg0
  have hw : IntKind.i64.wrap ((k : Int) + 1 - 1) = (k : Int) := by rw [IntKind.wrap_i64]; omega
  have hw2 : (k : Int) + 1 - 1 = (k : Int) := by omega
  have h1 : decide (1 ≤ (k : Int) + 1) = true := by simp; omega
  have h64 : decide ((k : Int) + 1 ≤ 64) = true := by simp; omega
  have hl1 := less1_is HF.out.n
  have hk64 : (k : Int) < 64 := by omega
  have hg := OpV.gs (o := { opOf ((k : Int) + 1) n t Z0 1 0 0 (key25 x) 0 0 0 (VT.leaf 2 x ⟨#[]⟩) with seen := Z0.set 0 saw }) (by rw [List.length_set]; rfl) k hk
  go_upto_region 5 with (first | ((with_reducible refine gate_op (op := .store 2 (.tmp 37) (.tmp 35)) rfl ?_); refine store_elem rfl 2 (.tmp 37) (.tmp 35) rfl _ (3 + k) (.int .i64 (less1 n)) rfl rfl rfl 40 _ _ (hS.at_ 1 rfl) hg (by kernel_rfl) ?_; rw [set_seen _ (by rw [List.length_set]; rfl) k hk]; intro wn hgn hon hbn hsn; have hS1 := hS.put 1 rfl hon hbn hgn; simp only [List.set_cons_zero, List.set_cons_succ] at hS1; clear hS hgn hon hbn hsn; have hS := hS1; clear hS1) | go_skip)
  have hfs : (opOf ((k : Int) + 1) n t ((Z0.set 0 saw).set k (less1 n)) 1 0 0 (key25 x) 0 0 0 (VT.leaf 2 x ⟨#[]⟩)).seen.length = 64 := by unfold opOf; rw [List.length_set]; first | rfl | (rw [List.length_set]; rfl)
  have hS2 : Boxes w _ [(_, Obj.cells zeroO.c 40), (_, Obj.cells (opOf ((k : Int) + 1) n t ((Z0.set 0 saw).set k (less1 n)) 1 0 0 (key25 x) 0 0 0 (VT.leaf 2 x ⟨#[]⟩)).c 40)] := hS
  clear hS
  have hS := hS2
  clear hS2
  have hfo : (opOf ((k : Int) + 1) n t ((Z0.set 0 saw).set k (less1 n)) 1 0 0 (key25 x) 0 0 0 (VT.leaf 2 x ⟨#[]⟩)).c.all (·.oneCell') = true := op_one rfl rfl
  generalize hFO : (opOf ((k : Int) + 1) n t ((Z0.set 0 saw).set k (less1 n)) 1 0 0 (key25 x) 0 0 0 (VT.leaf 2 x ⟨#[]⟩)) = FO at hS hfs hfo
  have HFO := Lib.hid hFO
  clear hFO
  go_wp2_with (first | ((with_reducible refine gate_op (op := .load 40 (.tmp 11)) rfl ?_); refine wpList_load_row' rfl 40 (.tmp 11) rfl _ rfl 40 _ (0, 0) _ (hS.at_ 1 rfl) Tryz.underlying40 rfl (op_info _ hfs) ?_) | ((with_reducible refine gate_op (op := .store 40 (.tmp 10) (.tmp 38)) rfl ?_); refine wpList_store_row rfl 40 (.tmp 10) (.tmp 38) rfl _ FO.c rfl rfl 40 _ (hS.at_ 0 rfl) (op_info _ hfs) ((OpV.size (o := zeroO) rfl).trans (OpV.size (o := FO) hfs).symm) hfo ?_; intro wn hbn hgn hon hsn; have hS1 := hS.put 0 rfl hon hbn hgn; (try simp only [List.nil_append, List.cons_append, List.set_cons_zero, List.set_cons_succ] at hS1); clear hS hbn hgn hon hsn; have hS := hS1; clear hS1) | go_skip)
  exact bodyPost_ret (v := opv FO) (results_cell_row rfl _ _ _ _ _ _ _ rfl (hS.at_ 0 rfl) Tryz.underlying40 rfl (op_info _ hfs)) rfl ⟨by rw [← HFO.out], hS.below⟩
set_option maxRecDepth 100000 in
set_option maxHeartbeats 2000000 in
theorem op25_out (hr : r < 1 ∨ 64 < r) : Calls Tryz.prog 12 #[.int .i64 r, .int .i64 n, .int .i64 t, .int .i64 saw, .int .i64 x] w fun e w' => e = .returned (opv (opv25 r n t saw x).o) ∧ Below w.heap.size w w' := by
  have ho : (opv25 r n t saw x).o = opOf r n t (Z0.set 0 saw) 1 0 0 (key25 x) 0 0 0 (VT.leaf 2 x ⟨#[]⟩) := by
    have h : seen25 r n saw = Z0.set 0 saw := by
      unfold seen25
      rw [if_neg (by omega)]
    unfold opv25
    rw [h]
  rw [ho]
  clear ho
  have HF := Lib.hid hf
  have hS := Boxes.start w
  have b1 := Lib.hid (leaf_build x)
  have b2 := Lib.hid (op25_build r n t x (key25 x))
  have hm := mod4_le x
  have hks := key25_size x
  have HT := Lib.hid (fun W => rtext_any (mod4 x : Int) W (by omega) (by omega))
  have h3 := bits3 x
  have hil := itoa4_len x
  have hil2 : ¬ 9223372036854775807 < 1 + (Lib.itoa (mod4 x : Int)).length := by omega
  clear hf
  go_enter Tryz.func12, Tryz.ntmps12
  go_upto_region 2 with (first | ((with_reducible refine gate_op (op := .alloc 40) rfl ?_); refine alloc_arm rfl 40 rfl (op_alloc _) ?_; intro wn hbn hgn; have hS1 := hS.new hbn hgn; (try simp only [List.nil_append, List.cons_append, List.set_cons_zero, List.set_cons_succ] at hS1); clear hS hbn hgn; have hS := hS1; clear hS1) | ((with_reducible refine gate_op (op := .build 38 #[(0, .const (.int .i64 2)), (1, .tmp 20)]) rfl ?_); refine build_arm rfl 38 #[(0, .const (.int .i64 2)), (1, .tmp 20)] rfl #[(0, .int .i64 2), (1, .int .i64 x)] (by simp only [List.map_toArray, List.map_cons, List.map_nil]; rfl) _ (b1.out _) ?_) | (go_at_call 26; (with_reducible (refine (HT.out _).mono ?_)); rintro e wn ⟨rfl, hbn⟩; have hS1 := hS.step hbn; clear hS hbn; have hS := hS1; clear hS1) | ((with_reducible refine gate_op (op := .build 40 #[(0, .tmp 14), (1, .tmp 15), (3, .const (.int .i64 1)), (5, .tmp 19), (8, .tmp 21)]) rfl ?_); refine build_arm rfl 40 #[(0, .tmp 14), (1, .tmp 15), (3, .const (.int .i64 1)), (5, .tmp 19), (8, .tmp 21)] rfl #[(0, .agg #[.int .i64 r, .int .i64 n]), (1, .int .i64 t), (3, .int .i64 1), (5, .string (key25 x)), (8, .agg (VT.leaf 2 x ⟨#[]⟩).c)] (by simp only [List.map_toArray, List.map_cons, List.map_nil]; rfl) _ (b2.out _) ?_) | ((with_reducible refine gate_op (op := .store 40 (.tmp 11) (.tmp 22)) rfl ?_); refine wpList_store_row rfl 40 (.tmp 11) (.tmp 22) rfl _ (opOf r n t Z0 1 0 0 (key25 x) 0 0 0 (VT.leaf 2 x ⟨#[]⟩)).c rfl rfl 40 _ (hS.at_ 1 rfl) (op_info _ rfl) rfl (op_one rfl rfl) ?_; intro wn hbn hgn hon hsn; have hS1 := hS.put 1 rfl hon hbn hgn; (try simp only [List.nil_append, List.cons_append, List.set_cons_zero, List.set_cons_succ] at hS1); clear hS hbn hgn hon hsn; have hS := hS1; clear hS1) | go_skip)
  have hg0 := OpV.gs (o := opOf r n t Z0 1 0 0 (key25 x) 0 0 0 (VT.leaf 2 x ⟨#[]⟩)) rfl 0 (by decide)
  go_upto_region 3 with (first | ((with_reducible refine gate_op (op := .store 2 (.tmp 25) (.tmp 23)) rfl ?_); refine store_elem rfl 2 (.tmp 25) (.tmp 23) rfl _ (3 + 0) (.int .i64 saw) rfl rfl rfl 40 _ _ (hS.at_ 1 rfl) hg0 (by kernel_rfl) ?_; rw [set_seen _ rfl 0 (by decide)]; intro wn hgn hon hbn hsn; have hS1 := hS.put 1 rfl hon hbn hgn; simp only [List.set_cons_zero, List.set_cons_succ] at hS1; clear hS hgn hon hbn hsn; have hS := hS1; clear hS1) | go_skip)
  clear hg0
  by_cases h1 : 1 ≤ r
  · have h64 : decide (r ≤ 64) = false := by simp; omega
    have hd1 : decide (1 ≤ r) = true := by simp; omega
    clear hr
    go_upto_region 5 with go_skip
    have hfs : (opOf r n t (Z0.set 0 saw) 1 0 0 (key25 x) 0 0 0 (VT.leaf 2 x ⟨#[]⟩)).seen.length = 64 := by unfold opOf; rw [List.length_set]; first | rfl | (rw [List.length_set]; rfl)
    have hS2 : Boxes w _ [(_, Obj.cells zeroO.c 40), (_, Obj.cells (opOf r n t (Z0.set 0 saw) 1 0 0 (key25 x) 0 0 0 (VT.leaf 2 x ⟨#[]⟩)).c 40)] := hS
    clear hS
    have hS := hS2
    clear hS2
    have hfo : (opOf r n t (Z0.set 0 saw) 1 0 0 (key25 x) 0 0 0 (VT.leaf 2 x ⟨#[]⟩)).c.all (·.oneCell') = true := op_one rfl rfl
    generalize hFO : (opOf r n t (Z0.set 0 saw) 1 0 0 (key25 x) 0 0 0 (VT.leaf 2 x ⟨#[]⟩)) = FO at hS hfs hfo
    have HFO := Lib.hid hFO
    clear hFO
    go_wp2_with (first | ((with_reducible refine gate_op (op := .load 40 (.tmp 11)) rfl ?_); refine wpList_load_row' rfl 40 (.tmp 11) rfl _ rfl 40 _ (0, 0) _ (hS.at_ 1 rfl) Tryz.underlying40 rfl (op_info _ hfs) ?_) | ((with_reducible refine gate_op (op := .store 40 (.tmp 10) (.tmp 38)) rfl ?_); refine wpList_store_row rfl 40 (.tmp 10) (.tmp 38) rfl _ FO.c rfl rfl 40 _ (hS.at_ 0 rfl) (op_info _ hfs) ((OpV.size (o := zeroO) rfl).trans (OpV.size (o := FO) hfs).symm) hfo ?_; intro wn hbn hgn hon hsn; have hS1 := hS.put 0 rfl hon hbn hgn; (try simp only [List.nil_append, List.cons_append, List.set_cons_zero, List.set_cons_succ] at hS1); clear hS hbn hgn hon hsn; have hS := hS1; clear hS1) | go_skip)
    exact bodyPost_ret (v := opv FO) (results_cell_row rfl _ _ _ _ _ _ _ rfl (hS.at_ 0 rfl) Tryz.underlying40 rfl (op_info _ hfs)) rfl ⟨by rw [← HFO.out], hS.below⟩
  · have hd1 : decide (1 ≤ r) = false := by simp; omega
    clear hr
    go_upto_region 5 with go_skip
    have hfs : (opOf r n t (Z0.set 0 saw) 1 0 0 (key25 x) 0 0 0 (VT.leaf 2 x ⟨#[]⟩)).seen.length = 64 := by unfold opOf; rw [List.length_set]; first | rfl | (rw [List.length_set]; rfl)
    have hS2 : Boxes w _ [(_, Obj.cells zeroO.c 40), (_, Obj.cells (opOf r n t (Z0.set 0 saw) 1 0 0 (key25 x) 0 0 0 (VT.leaf 2 x ⟨#[]⟩)).c 40)] := hS
    clear hS
    have hS := hS2
    clear hS2
    have hfo : (opOf r n t (Z0.set 0 saw) 1 0 0 (key25 x) 0 0 0 (VT.leaf 2 x ⟨#[]⟩)).c.all (·.oneCell') = true := op_one rfl rfl
    generalize hFO : (opOf r n t (Z0.set 0 saw) 1 0 0 (key25 x) 0 0 0 (VT.leaf 2 x ⟨#[]⟩)) = FO at hS hfs hfo
    have HFO := Lib.hid hFO
    clear hFO
    go_wp2_with (first | ((with_reducible refine gate_op (op := .load 40 (.tmp 11)) rfl ?_); refine wpList_load_row' rfl 40 (.tmp 11) rfl _ rfl 40 _ (0, 0) _ (hS.at_ 1 rfl) Tryz.underlying40 rfl (op_info _ hfs) ?_) | ((with_reducible refine gate_op (op := .store 40 (.tmp 10) (.tmp 38)) rfl ?_); refine wpList_store_row rfl 40 (.tmp 10) (.tmp 38) rfl _ FO.c rfl rfl 40 _ (hS.at_ 0 rfl) (op_info _ hfs) ((OpV.size (o := zeroO) rfl).trans (OpV.size (o := FO) hfs).symm) hfo ?_; intro wn hbn hgn hon hsn; have hS1 := hS.put 0 rfl hon hbn hgn; (try simp only [List.nil_append, List.cons_append, List.set_cons_zero, List.set_cons_succ] at hS1); clear hS hbn hgn hon hsn; have hS := hS1; clear hS1) | go_skip)
    exact bodyPost_ret (v := opv FO) (results_cell_row rfl _ _ _ _ _ _ _ rfl (hS.at_ 0 rfl) Tryz.underlying40 rfl (op_info _ hfs)) rfl ⟨by rw [← HFO.out], hS.below⟩
theorem op25_any : Calls Tryz.prog 12 #[.int .i64 r, .int .i64 n, .int .i64 t, .int .i64 saw, .int .i64 x] w fun e w' => e = .returned (opv (opv25 r n t saw x).o) ∧ Below w.heap.size w w' := by
  by_cases h : 1 ≤ r ∧ r ≤ 64
  · obtain ⟨k, hk⟩ : ∃ k : Nat, r = (k : Int) + 1 := ⟨(r - 1).toNat, by omega⟩
    exact op25_in r n t saw x w hf k (by omega) hk
  · exact op25_out r n t saw x w hf (by omega)
end
end Go.Proofs.YtffcpmohanhihaaGreatDoor
namespace Go.Proofs.YtffcpmohanhihaaGreatDoor
open Go.RowKit
set_option linter.unusedVariables false
set_option linter.unusedSimpArgs false
def xa : OT := opv25 1 2 2 1 7
def xb : OT := opv25 1 1 1 0 5
theorem xa_fit : Fit25 1 2 2 1 7 := ⟨by decide, by decide, by decide, by decide, by decide⟩
theorem xb_fit : Fit25 1 1 1 0 5 := ⟨by decide, by decide, by decide, by decide, by decide⟩
def a1 : AddV := addF s0 [] xa
def a2 : AddV := addF a1.s a1.L xb
theorem a1_n : a1.n = 0 := of_decide_eq_true (by kernel_rfl)
theorem a1_r : a1.r = 0 := of_decide_eq_true (by kernel_rfl)
theorem a1_l : a1.L.length = 1 := of_decide_eq_true (by kernel_rfl)
theorem a2_n : a2.n = 2 := of_decide_eq_true (by kernel_rfl)
theorem a2_r : a2.r = 0 := of_decide_eq_true (by kernel_rfl)
theorem a2_l : a2.L.length = 0 := of_decide_eq_true (by kernel_rfl)
theorem a2_v : (vcells a2.s.v)[0]? = some (.int .i64 2) := by kernel_rfl
theorem a1_is : addF s0 [] xa = a1 := rfl
theorem a2_is : addF a1.s a1.L xb = a2 := rfl
theorem xa_m : xa.o.M = 0 := rfl
theorem xb_m : xb.o.M = 0 := rfl
theorem xa_can : xa.can = xa := rfl
theorem xb_can : xb.can = xb := rfl
theorem a0_room : ([] : List OT).length ≤ 256 := by decide
theorem a1_room : a1.L.length ≤ 256 := by rw [a1_l]; decide
theorem xa_any (w : World) : Calls Tryz.prog 12 #[.int .i64 1, .int .i64 2, .int .i64 2, .int .i64 1, .int .i64 7] w fun e w' => e = .returned (opv xa.o) ∧ Below w.heap.size w w' := op25_any 1 2 2 1 7 w xa_fit
theorem xb_any (w : World) : Calls Tryz.prog 12 #[.int .i64 1, .int .i64 1, .int .i64 1, .int .i64 0, .int .i64 5] w fun e w' => e = .returned (opv xb.o) ∧ Below w.heap.size w w' := op25_any 1 1 1 0 5 w xb_fit
/-- Add, with what it says known. -/
def AddK (w0 w : World) (B : DB) (p : Nat) (S : List Nat) (a : AddV) (n r : Int) (e : Ending) (w' : World) : Prop :=
  ∃ S', e = .returned (.tuple #[.int .i64 n, .int .i64 r]) ∧ PairC w0 w' B p a.s a.L S' ∧ ButS S w w' ∧ ∀ k ∈ S', k ∈ S ∨ w.heap.size ≤ k
theorem add_known {w0 w : World} {B : DB} {p : Nat} {cs : DocS} {cl : List OT} {S : List Nat} {x y : OT} {a : AddV} {n r : Int} (h : PairC w0 w B p cs cl S) (hw0 : Vars w0) (hL : cl.length ≤ 256) (hx : OT.Ok x) (hxm : x.o.M = 0) (hc : x.can = y) (ha : addF cs cl y = a) (hn : a.n = n) (hr : a.r = r) : Calls Tryz.prog 11 #[.pointer (some ⟨p, 0, none⟩), .pointer (some ⟨B.d, 0, none⟩), opv x.o] w fun e w' => AddK w0 w B p S a n r e w' := by
  subst ha hn hr
  exact addC_any h hw0 hL hx hxm hc
theorem xa_ok : OT.Ok xa := opv25_ok xa_fit
theorem xb_ok : OT.Ok xb := opv25_ok xb_fit
theorem len_known {w0 w : World} {B : DB} {p : Nat} {cs : DocS} {cl : List OT} {S : List Nat} {n : Int} (h : PairC w0 w B p cs cl S) (hn : (cl.length : Int) = n) : Calls Tryz.prog 13 #[.pointer (some ⟨p, 0, none⟩)] w fun e w' => e = .returned (.int .i64 n) ∧ Below w.heap.size w w' := by
  subst hn; exact lenC_any h
theorem len_of {w0 w : World} {p : Nat} {cl : List OT} {n : Int} (h : BufC w0 w p cl) (hn : (cl.length : Int) = n) : Calls Tryz.prog 13 #[.pointer (some ⟨p, 0, none⟩)] w fun e w' => e = .returned (.int .i64 n) ∧ Below w.heap.size w w' := by
  subst hn; exact h.len
theorem wait_known {w0 w : World} {B : DB} {p : Nat} {cs : DocS} {cl : List OT} {S : List Nat} {n : Nat} (h : PairC w0 w B p cs cl S) (hn : cl.length = n) (hm : cl.length ≤ 100000) : Calls Tryz.prog 17 #[.pointer (some ⟨p, 0, none⟩)] w fun e w' => ∃ A c, e = .returned (.slice A n c) ∧ Below w.heap.size w w' :=
  (waitC_any h hm).mono fun e w' hW => by
    unfold WaitC at hW
    obtain ⟨M, A', c', he, hl, _, _, hb⟩ := hW
    exact ⟨A', c', by rw [he, hl, hn], hb⟩
theorem BufC.step {w0 W W' : World} {p : Nat} {cl : List OT} (h : BufC w0 W p cl) (hb : Below W.heap.size W W') : BufC w0 W' p cl := h.stay (T := []) (ButS.of_below hb) (fun k hk => by cases hk)
theorem a1_big : a1.L.length ≤ 100000 := by rw [a1_l]; decide
theorem a1_li : (a1.L.length : Int) = 1 := by rw [a1_l]; rfl
theorem a2_li : (a2.L.length : Int) = 0 := by rw [a2_l]; rfl
theorem a2_at (W : World) : (Instr.index 33 (.agg (vcells a2.s.v)) (.int .i64 0)).run Tryz.prog W = .ok (.int .i64 2) W := by kernel_rfl
set_option maxRecDepth 100000 in
set_option maxHeartbeats 4000000 in
theorem awake25_any (w : World) (hw : Vars w) : Calls Tryz.prog 8 #[] w fun e w' => e = .returned (.bool true) ∧ Below w.heap.size w w' := by
  have HW := Lib.hid hw
  clear hw
  go_enter Tryz.func8, Tryz.ntmps8
  go_upto_region 5 with (first | go_skip | (go_at_call 9; (with_reducible (refine (bNew_any _).mono ?_)); rintro e wa ⟨p, rfl, hb⟩; have HB := Lib.hid hb; clear hb) | (go_at_call 10; (with_reducible (refine (dNew_any _).mono ?_)); rintro e wb ⟨B, rfl, hd⟩; have HP := Lib.hid (PairC.new HB.out hd); clear HB hd) | (go_at_call 12; (with_reducible (refine (xa_any _).mono ?_)); rintro e wn ⟨rfl, hbn⟩; have HP1 := Lib.hid (HP.out.step hbn); clear HP hbn; have HP := HP1; clear HP1) | (go_at_call 11; (with_reducible (refine (add_known HP.out HW.out a0_room xa_ok xa_m xa_can a1_is a1_n a1_r).mono ?_)); rintro e wn ⟨S, rfl, hp, hbn, hs⟩; have HP1 := Lib.hid hp; clear HP hp hbn hs; have HP := HP1; clear HP1))
  go_upto_region 6 with (first | go_skip | (go_at_call 17; (with_reducible (refine (wait_known HP.out a1_l a1_big).mono ?_)); rintro e wn ⟨A, c, rfl, hbn⟩; have HP1 := Lib.hid (HP.out.step hbn); clear HP hbn; have HP := HP1; clear HP1))
  go_upto_region 7 with (first | go_skip | (go_at_call 21; have HSL := Lib.hid (fun k hk => (HP.out.lt k hk).2); (with_reducible (refine (copyC_any HP.out a1_big).mono ?_)); rintro e wn ⟨p2, rfl, hc, hbn⟩; have HP1 := Lib.hid (HP.out.step hbn); have HC := Lib.hid hc; clear HP hbn hc; have HP := HP1; clear HP1))
  go_upto_region 8 with (first | go_skip | (go_at_call 12; (with_reducible (refine (xb_any _).mono ?_)); rintro e wn ⟨rfl, hbn⟩; have HP1 := Lib.hid (HP.out.step hbn); have HC1 := Lib.hid (HC.out.step hbn); clear HP HC hbn; have HP := HP1; have HC := HC1; clear HP1 HC1) | (go_at_call 11; (with_reducible (refine (add_known HP.out HW.out a1_room xb_ok xb_m xb_can a2_is a2_n a2_r).mono ?_)); rintro e wn ⟨S2, rfl, hp, hbn, hs⟩; have HC1 := Lib.hid (HC.out.stay hbn HSL.out); have HP1 := Lib.hid hp; clear HP HC hp hbn hs; have HP := HP1; have HC := HC1; clear HP1 HC1))
  have hix := a2_at
  go_wp2_with (first | go_skip | (go_at_call 13; (with_reducible (refine (len_known HP.out a2_li).mono ?_)); rintro e wn ⟨rfl, hbn⟩; have HP1 := Lib.hid (HP.out.step hbn); have HC1 := Lib.hid (HC.out.step hbn); clear HP HC hbn; have HP := HP1; have HC := HC1; clear HP1 HC1) | (go_at_call 13; (with_reducible (refine (len_of HC.out a1_li).mono ?_)); rintro e wn ⟨rfl, hbn⟩; have HP1 := Lib.hid (HP.out.step hbn); have HC1 := Lib.hid (HC.out.step hbn); clear HP HC hbn; have HP := HP1; have HC := HC1; clear HP1 HC1) | (go_at_call 14; (with_reducible (refine (vecC_any HP.out).mono ?_)); rintro e wn ⟨rfl, hbn⟩; have HP1 := Lib.hid (HP.out.step hbn); clear HP hbn; have HP := HP1; clear HP1))
  go_ret
  exact ⟨rfl, HP.out.below⟩
end Go.Proofs.YtffcpmohanhihaaGreatDoor
namespace Go.Proofs.YtffcpmohanhihaaGreatDoor
open Go.RowKit
set_option linter.unusedVariables false
set_option linter.unusedSimpArgs false
def xc : OT := opv25 2 1 5 0 1
theorem xc_fit : Fit25 2 1 5 0 1 := ⟨by decide, by decide, by decide, by decide, by decide⟩
theorem xc_any (w : World) : Calls Tryz.prog 12 #[.int .i64 2, .int .i64 1, .int .i64 5, .int .i64 0, .int .i64 1] w fun e w' => e = .returned (opv xc.o) ∧ Below w.heap.size w w' := op25_any 2 1 5 0 1 w xc_fit
theorem xc_ok : OT.Ok xc := opv25_ok xc_fit
theorem xc_m : xc.o.M = 0 := rfl
theorem xc_can : xc.can = xc := rfl
theorem zOT_m : zOT.o.M = 0 := rfl
def zC : OT := zOT.can
theorem zOT_can : zOT.can = zC := rfl
def k2 : AddV := addF a1.s a1.L xa
def k3 : AddV := addF k2.s k2.L zC
def k4 : AddV := addF k3.s k3.L xc
def k5 : AddV := addF k4.s k4.L xc
theorem k2_is : addF a1.s a1.L xa = k2 := rfl
theorem k3_is : addF k2.s k2.L zC = k3 := rfl
theorem k4_is : addF k3.s k3.L xc = k4 := rfl
theorem k5_is : addF k4.s k4.L xc = k5 := rfl
theorem k2_n : k2.n = 0 := of_decide_eq_true (by kernel_rfl)
theorem k2_r : k2.r = 5 := of_decide_eq_true (by kernel_rfl)
theorem k2_l : k2.L.length = 1 := of_decide_eq_true (by kernel_rfl)
theorem k2_room : k2.L.length ≤ 256 := by rw [k2_l]; decide
theorem k3_n : k3.n = 0 := of_decide_eq_true (by kernel_rfl)
theorem k3_r : k3.r = 11 := of_decide_eq_true (by kernel_rfl)
theorem k3_l : k3.L.length = 1 := of_decide_eq_true (by kernel_rfl)
theorem k3_room : k3.L.length ≤ 256 := by rw [k3_l]; decide
theorem k4_n : k4.n = 1 := of_decide_eq_true (by kernel_rfl)
theorem k4_r : k4.r = 0 := of_decide_eq_true (by kernel_rfl)
theorem k4_l : k4.L.length = 1 := of_decide_eq_true (by kernel_rfl)
theorem k4_room : k4.L.length ≤ 256 := by rw [k4_l]; decide
theorem k5_n : k5.n = 0 := of_decide_eq_true (by kernel_rfl)
theorem k5_r : k5.r = 5 := of_decide_eq_true (by kernel_rfl)
theorem k5_li : (k5.L.length : Int) = 1 := of_decide_eq_true (by kernel_rfl)
theorem opv_z : opv zOT.o = .agg zeroO.c := by kernel_rfl
theorem add_z {w0 w : World} {B : DB} {p : Nat} {S : List Nat} (h : PairC w0 w B p k2.s k2.L S) (hw0 : Vars w0) : Calls Tryz.prog 11 #[.pointer (some ⟨p, 0, none⟩), .pointer (some ⟨B.d, 0, none⟩), .agg zeroO.c] w fun e w' => AddK w0 w B p S k3 0 11 e w' := by
  have q := add_known h hw0 k2_room zOT_ok zOT_m zOT_can k3_is k3_n k3_r
  rw [opv_z] at q
  exact q
theorem owns_low {W : World} {base base' : Nat} {e : TypeId} {size : Nat} {v : Value} {n : Nat} {xs : List Value} (h : W.ownsRow base e size v n xs) (hb : base' ≤ base) : W.ownsRow base' e size v n xs := by
  refine ⟨h.1, ?_⟩
  rcases h.2 with q | ⟨g, cap, cur, h1, h2, h3⟩
  · exact .inl q
  · exact .inr ⟨g, cap, cur, h1, Nat.le_trans hb h2, h3⟩
theorem Pair.base {w w0 W : World} {B : DB} {p : Nat} {s : DocS} {A : Option Addr} {c : Nat} {L : List OT} (h : Pair w0 W B p s A c L) (hb : Below w.heap.size w w0) : Pair w W B p s A c L :=
  ⟨⟨hb.trans (h.bx.below.mono hb.size), fun i q hq => ⟨Nat.le_trans hb.size (h.bx.rows i q hq).1, (h.bx.rows i q hq).2⟩, h.bx.apart⟩, ⟨h.buf.at_, ⟨owns_low h.buf.row.own hb.size, h.buf.row.ok⟩, h.buf.ap, Nat.le_trans hb.size h.buf.b⟩, h.np, h.ap, h.ok, h.m0⟩
theorem PairC.base {w w0 W : World} {B : DB} {p : Nat} {cs : DocS} {cl : List OT} {S : List Nat} (h : PairC w0 W B p cs cl S) (hb : Below w.heap.size w w0) : PairC w W B p cs cl S := by
  obtain ⟨s, A, c, L, hP, e⟩ := h
  exact ⟨s, A, c, L, hP.base hb, e⟩
set_option maxRecDepth 100000 in
set_option maxHeartbeats 4000000 in
theorem readyKnown_any (w : World) (hw : Vars w) : Calls Tryz.prog 3 #[] w fun e w' => e = .returned (.bool true) ∧ Below w.heap.size w w' := by
  have HW := Lib.hid hw
  clear hw
  go_enter Tryz.func3, Tryz.ntmps3
  go_upto_region 3 with (first | go_skip | (go_at_call 8; (with_reducible (refine (awake25_any _ HW.out).mono ?_)); rintro e wn ⟨rfl, hbn⟩; have HA := Lib.hid hbn; clear hbn))
  go_upto_region 5 with (first | go_skip | (go_at_call 9; (with_reducible (refine (bNew_any _).mono ?_)); rintro e wa ⟨p, rfl, hb⟩; have HB := Lib.hid hb; clear hb) | (go_at_call 10; (with_reducible (refine (dNew_any _).mono ?_)); rintro e wb ⟨B, rfl, hd⟩; have HP := Lib.hid ((PairC.new HB.out hd).base HA.out); clear HB hd) | (go_at_call 12; (with_reducible (refine (xa_any _).mono ?_)); rintro e wn ⟨rfl, hbn⟩; have HP1 := Lib.hid (HP.out.step hbn); clear HP hbn; have HP := HP1; clear HP1) | (go_at_call 11; (with_reducible (refine (add_known HP.out HW.out a0_room xa_ok xa_m xa_can a1_is a1_n a1_r).mono ?_)); rintro e wn ⟨S, rfl, hp, hbn, hs⟩; have HP1 := Lib.hid hp; clear HP hp hbn hs; have HP := HP1; clear HP1))
  go_upto_region 6 with (first | go_skip | (go_at_call 12; (with_reducible (refine (xa_any _).mono ?_)); rintro e wn ⟨rfl, hbn⟩; have HP1 := Lib.hid (HP.out.step hbn); clear HP hbn; have HP := HP1; clear HP1) | (go_at_call 11; (with_reducible (refine (add_known HP.out HW.out a1_room xa_ok xa_m xa_can k2_is k2_n k2_r).mono ?_)); rintro e wn ⟨S, rfl, hp, hbn, hs⟩; have HP1 := Lib.hid hp; clear HP hp hbn hs; have HP := HP1; clear HP1))
  go_upto_region 7 with (first | go_skip | (go_at_call 11; rw [zero_cells]; (with_reducible (refine (add_z HP.out HW.out).mono ?_)); rintro e wn ⟨S, rfl, hp, hbn, hs⟩; have HP1 := Lib.hid hp; clear HP hp hbn hs; have HP := HP1; clear HP1))
  go_upto_region 8 with (first | go_skip | (go_at_call 12; (with_reducible (refine (xc_any _).mono ?_)); rintro e wn ⟨rfl, hbn⟩; have HP1 := Lib.hid (HP.out.step hbn); clear HP hbn; have HP := HP1; clear HP1) | (go_at_call 11; (with_reducible (refine (add_known HP.out HW.out k3_room xc_ok xc_m xc_can k4_is k4_n k4_r).mono ?_)); rintro e wn ⟨S, rfl, hp, hbn, hs⟩; have HP1 := Lib.hid hp; clear HP hp hbn hs; have HP := HP1; clear HP1))
  go_upto_region 9 with (first | go_skip | (go_at_call 12; (with_reducible (refine (xc_any _).mono ?_)); rintro e wn ⟨rfl, hbn⟩; have HP1 := Lib.hid (HP.out.step hbn); clear HP hbn; have HP := HP1; clear HP1) | (go_at_call 11; (with_reducible (refine (add_known HP.out HW.out k4_room xc_ok xc_m xc_can k5_is k5_n k5_r).mono ?_)); rintro e wn ⟨S, rfl, hp, hbn, hs⟩; have HP1 := Lib.hid hp; clear HP hp hbn hs; have HP := HP1; clear HP1))
  go_wp2_with (first | go_skip | (go_at_call 13; (with_reducible (refine (len_known HP.out k5_li).mono ?_)); rintro e wn ⟨rfl, hbn⟩; have HP1 := Lib.hid (HP.out.step hbn); clear HP hbn; have HP := HP1; clear HP1))
  go_ret
  exact ⟨rfl, HP.out.below⟩
end Go.Proofs.YtffcpmohanhihaaGreatDoor
