/-
  The reference's zero, Value tell what is written here, for all trees. Condition: what plain tells is known.
  The reference's Op tells what is written here, for all operations. Condition: what zero, Value tell is known.
-/
import Derived.Test.YtjjiiaclgacfiaaGreatDoorRSameJ
import Derived.Test.YtjjiiaclgacfiaaGreatDoorRPlainWJ
import Derived.Test.YtjjiiaclgacfiaaGreatDoorOpGoodJ
import Derived.Test.YtjjiiaclgacfiaaGreatDoorRClkJ
namespace Go.Proofs.YtjjiiaclgacfiaaGreatDoor
open Go.RowKit
set_option linter.unusedVariables false
set_option linter.unusedSimpArgs false
set_option maxHeartbeats 1000000 in
theorem rzero_any (a : VT) (w : World) (ha : VT.In w.heap.size w a) : Calls Tryz.prog 22 #[.agg a.c] w fun e w' => e = .returned (.bool (sameV a .no)) ∧ Below w.heap.size w w' := by
  have H := Lib.hid (fun (W : World) (hW : Below w.heap.size w W) => rsame_v a .no W ((ha.move hW).up hW.size) (VT.no_in _ _))
  have hS0 : Sees w (w.alloc (Obj.cells a.c 30)) [(w.heap.size, Obj.cells a.c 30)] := (Sees.start w).alloc _
  clear ha
  go_enter Tryz.func22, Tryz.ntmps22
  go_wp2_with (first | go_skip | (refine wpList_load_row' rfl 30 (.tmp 1) rfl _ rfl 30 _ (0, 0) _ hS0.g0 Tryz.underlying30 rfl (VT.val_info _) ?_) | (go_at_call 25; refine (H.out _ hS0.below).mono ?_; rintro e w1 ⟨rfl, hb1⟩))
  go_ret
  exact ⟨ret_bool rfl, (hS0.step hb1).below⟩
def valueB (t : VT) : Bool := !heavyB t 4096 32 && plainT t
section
variable (HP : ∀ t, PlainOk t)
include HP
set_option maxHeartbeats 1000000 in
theorem rvalue_any (t : VT) (w : World) (ht : VT.In w.heap.size w t) : Calls Tryz.prog 23 #[.agg t.c] w fun e w' => e = .returned (.bool (valueB t)) ∧ Below w.heap.size w w' := by
  have hS : Sees w (w.alloc (Obj.cells t.c 30)) [(w.heap.size, Obj.cells t.c 30)] := (Sees.start w).alloc _
  have cH := fun W (hW : Below w.heap.size w W) => heavy_any t 4096 32 W (by omega) (by omega) (by omega) (by omega) ((ht.move hW).up hW.size)
  have CP := Lib.hid (fun W (hW : Below w.heap.size w W) => HP t W ((ht.move hW).up hW.size))
  unfold valueB
  clear ht HP
  cases hv : heavyB t 4096 32
  · rw [hv] at cH
    have CH := Lib.hid cH
    clear cH hv
    go_enter Tryz.func23, Tryz.ntmps23
    go_wp2_with (first | go_skip | (refine wpList_load_row' rfl 30 (.tmp 1) rfl _ rfl 30 _ (0, 0) _ hS.g0 Tryz.underlying30 rfl (VT.val_info _) ?_) | (go_at_call 5; with_reducible (refine (CH.out _ hS.below).mono ?_); rintro e wn ⟨rfl, hbn⟩; have hS1 := hS.step hbn; clear hS hbn; have hS := hS1; clear hS1) | (go_at_call 33; with_reducible (refine (CP.out _ hS.below).mono ?_); rintro e wn ⟨rfl, hbn⟩; have hS1 := hS.step hbn; clear hS hbn; have hS := hS1; clear hS1))
    go_ret
    exact ⟨ret_bool rfl, hS.below⟩
  · rw [hv] at cH
    have CH := Lib.hid cH
    clear cH hv
    go_enter Tryz.func23, Tryz.ntmps23
    go_wp2_with (first | go_skip | (refine wpList_load_row' rfl 30 (.tmp 1) rfl _ rfl 30 _ (0, 0) _ hS.g0 Tryz.underlying30 rfl (VT.val_info _) ?_) | (go_at_call 5; with_reducible (refine (CH.out _ hS.below).mono ?_); rintro e wn ⟨rfl, hbn⟩; have hS1 := hS.step hbn; clear hS hbn; have hS := hS1; clear hS1) | (go_at_call 33; with_reducible (refine (CP.out _ hS.below).mono ?_); rintro e wn ⟨rfl, hbn⟩; have hS1 := hS.step hbn; clear hS hbn; have hS := hS1; clear hS1))
    go_ret
    exact ⟨ret_bool rfl, hS.below⟩
end
end Go.Proofs.YtjjiiaclgacfiaaGreatDoor
namespace Go.Proofs.YtjjiiaclgacfiaaGreatDoor
open Go.RowKit
set_option linter.unusedVariables false
set_option linter.unusedSimpArgs false
set_option linter.unusedSectionVars false
theorem run_index_arr {P : Program} (t e : TypeId) (ht : P.underlying t = some (.array 64 e)) (hs : (P.info? e).map (·.size) = some 1) {b i0 : Nat} (i : Int) (h0 : 1 ≤ i) (h1 : i ≤ 64) (w : World) :
    (Instr.indexAt t (.pointer (some ⟨b, i0, none⟩)) (.int .i64 (i - 1))).run P w = .ok (.pointer (some ⟨b, i0 + (i.toNat - 1), none⟩)) w := by
  obtain ⟨i1, hq, hs⟩ := Option.map_eq_some_iff.1 hs
  obtain ⟨k, rfl⟩ : ∃ k : Nat, i = (k : Int) + 1 := ⟨(i - 1).toNat, by omega⟩
  have hk : k < 64 := by omega
  have hadd : (⟨b, i0, none⟩ : Addr).add k = ⟨b, i0 + k, none⟩ := by unfold Addr.add; split <;> simp_all
  have e1 : (k : Int) + 1 - 1 = (k : Int) := by omega
  have e2 : ((k : Int) + 1).toNat - 1 = k := by omega
  have hlt : (k : Int) < (64 : Nat) := by omega
  rw [e1, e2]
  simp [Instr.indexAt, Instr.sureAddr, run_underlying ht, asIntOf, sizeOf, typeInfo, hq, hs, hk, hadd]
theorem quiet_index {P : Program} {o : Oper} {a : Act} {C : World → Prop} {K : Act → Prop} (t : TypeId) (x i : Operand) (ho : o.op = .indexAddr t x i) (v : Value) (hrun : ∀ w, C w → (Instr.indexAt t (a.eval x) (a.eval i)).run P w = .ok v w)
    (h : K (a.put o.dst v)) : o.quiet P a C K := by
  refine ⟨_, fun w hw => ?_, h⟩
  unfold Oper.quietAt execOp
  simp only [ho, Sem.run_bind, Sem.run_pure, Result.andThen_ok, hrun w hw]
  exact ⟨rfl, rfl⟩
/-- May a vector's k-th number be? -/
def inB (o : OpV) (k : Nat) : Bool := decide (0 ≤ vat o.seen k) && decide (vat o.seen k ≤ 60)
def objB (o : OpV) : Bool := o.OR == 0 && o.ON == 0
def atB (o : OpV) : Bool := o.AR == 0 && o.AN == 0
def headB (o : OpV) : Bool := goodB o.R o.N && decide (1 ≤ o.T) && decide (1 ≤ o.K) && decide (o.K ≤ 4) && decide (0 ≤ o.M) && decide (o.M ≤ 2)
def tailB (o : OpV) (sb zb vb : Bool) : Bool :=
  (if o.K ≤ 2 then sb && atB o else o.key.toList.isEmpty && !objB o && !(atB o && o.K == 4) && (atB o || hasB o.seen o.AR o.AN)) &&
    (if o.K == 2 || o.K == 4 then o.M == 0 && zb else if o.M == 0 then vb && o.VK != 5 && o.VK != 6 else zb)
def ropB (o : OpV) (sb zb vb : Bool) : Bool :=
  headB o && allTo (inB o) 64 && (vat o.seen (o.R.toNat - 1) == o.N - 1) && (objB o || hasB o.seen o.OR o.ON) && tailB o sb zb vb
section
variable (o : OpV) (zb vb : Bool) (w : World) (ho : o.seen.length = 64)
  (HZ : Hid (∀ W, Below w.heap.size w W → Calls Tryz.prog 22 #[.agg o.vc] W fun e w' => e = .returned (.bool zb) ∧ Below W.heap.size W w'))
  (HV : Hid (∀ W, Below w.heap.size w W → Calls Tryz.prog 23 #[.agg o.vc] W fun e w' => e = .returned (.bool vb) ∧ Below W.heap.size W w'))
include ho HZ HV
set_option maxRecDepth 100000 in
set_option maxHeartbeats 1000000 in
theorem rop_g (sb : Bool) (hg : goodB o.R o.N = false) : Calls Tryz.prog 7 #[opv o] w fun e w' => e = .returned (.bool (ropB o sb zb vb)) ∧ Below w.heap.size w w' := by
  have hh : Hid (ropB o sb zb vb = false) := by
    have : headB o = false := by unfold headB; rw [hg]; rfl
    unfold Hid ropB; rw [this]; rfl
  have hS : Sees w (w.alloc (Obj.cells o.c 32)) [(w.heap.size, Obj.cells o.c 32)] := (Sees.start w).alloc _
  have a0 := OpV.g0 (o := o)
  have a1 := OpV.g1 (o := o)
  have a2 := OpV.g2 (o := o)
  have a70 := OpV.g70 ho
  have a73 := OpV.g73 ho
  have a67 := OpV.g67 ho
  skip
  go_enter Tryz.func7, Tryz.ntmps7
  go_wp2_with (first | go_skip | (refine load_part rfl 23 (.tmp 4) rfl _ 0 rfl _ _ (0, 0) _ _ hS.g0 OpV.pId Tryz.underlying23 rfl (id_info _ _) ?_) | (go_at_call 19; with_reducible (refine (r20Good_is hg _).mono ?_); rintro e wn ⟨rfl, hbn⟩; have hS1 := hS.step hbn; clear hS hbn; have hS := hS1; clear hS1; (try clear c2 c67 c73); have c2 := (cell_of_row _ _ _ _ _ _ hS.g0).trans (OpV.g2 (o := o)); have c67 := (cell_of_row _ _ _ _ _ _ hS.g0).trans a67; have c73 := (cell_of_row _ _ _ _ _ _ hS.g0).trans (OpV.g73 ho)))
  go_ret
  exact ⟨ret_bool hh.out.symm, hS.below⟩
set_option maxRecDepth 100000 in
set_option maxHeartbeats 1000000 in
theorem rop_t (sb : Bool) (hg : goodB o.R o.N = true) (ht : o.T < 1) : Calls Tryz.prog 7 #[opv o] w fun e w' => e = .returned (.bool (ropB o sb zb vb)) ∧ Below w.heap.size w w' := by
  have hh : Hid (ropB o sb zb vb = false) := by
    have : headB o = false := by unfold headB; simp; omega
    unfold Hid ropB; rw [this]; rfl
  have hS : Sees w (w.alloc (Obj.cells o.c 32)) [(w.heap.size, Obj.cells o.c 32)] := (Sees.start w).alloc _
  have a0 := OpV.g0 (o := o)
  have a1 := OpV.g1 (o := o)
  have a2 := OpV.g2 (o := o)
  have a70 := OpV.g70 ho
  have a73 := OpV.g73 ho
  have a67 := OpV.g67 ho
  skip
  go_enter Tryz.func7, Tryz.ntmps7
  go_wp2_with (first | go_skip | (refine load_part rfl 23 (.tmp 4) rfl _ 0 rfl _ _ (0, 0) _ _ hS.g0 OpV.pId Tryz.underlying23 rfl (id_info _ _) ?_) | (go_at_call 19; with_reducible (refine (r20Good_is hg _).mono ?_); rintro e wn ⟨rfl, hbn⟩; have hS1 := hS.step hbn; clear hS hbn; have hS := hS1; clear hS1; (try clear c2 c67 c73); have c2 := (cell_of_row _ _ _ _ _ _ hS.g0).trans (OpV.g2 (o := o)); have c67 := (cell_of_row _ _ _ _ _ _ hS.g0).trans a67; have c73 := (cell_of_row _ _ _ _ _ _ hS.g0).trans (OpV.g73 ho)))
  go_ret
  exact ⟨ret_bool hh.out.symm, hS.below⟩
set_option maxRecDepth 100000 in
set_option maxHeartbeats 1000000 in
theorem rop_k (sb : Bool) (hg : goodB o.R o.N = true) (ht : 1 ≤ o.T) (hk : o.K < 1) : Calls Tryz.prog 7 #[opv o] w fun e w' => e = .returned (.bool (ropB o sb zb vb)) ∧ Below w.heap.size w w' := by
  have hh : Hid (ropB o sb zb vb = false) := by
    have : headB o = false := by unfold headB; simp; omega
    unfold Hid ropB; rw [this]; rfl
  have hS : Sees w (w.alloc (Obj.cells o.c 32)) [(w.heap.size, Obj.cells o.c 32)] := (Sees.start w).alloc _
  have a0 := OpV.g0 (o := o)
  have a1 := OpV.g1 (o := o)
  have a2 := OpV.g2 (o := o)
  have a70 := OpV.g70 ho
  have a73 := OpV.g73 ho
  have a67 := OpV.g67 ho
  have ht2 : decide (o.T < 1) = false := (by simp; omega)
  go_enter Tryz.func7, Tryz.ntmps7
  go_wp2_with (first | go_skip | (refine load_part rfl 23 (.tmp 4) rfl _ 0 rfl _ _ (0, 0) _ _ hS.g0 OpV.pId Tryz.underlying23 rfl (id_info _ _) ?_) | (go_at_call 19; with_reducible (refine (r20Good_is hg _).mono ?_); rintro e wn ⟨rfl, hbn⟩; have hS1 := hS.step hbn; clear hS hbn; have hS := hS1; clear hS1; (try clear c2 c67 c73); have c2 := (cell_of_row _ _ _ _ _ _ hS.g0).trans (OpV.g2 (o := o)); have c67 := (cell_of_row _ _ _ _ _ _ hS.g0).trans a67; have c73 := (cell_of_row _ _ _ _ _ _ hS.g0).trans (OpV.g73 ho)))
  go_ret
  exact ⟨ret_bool hh.out.symm, hS.below⟩
set_option maxRecDepth 100000 in
set_option maxHeartbeats 1000000 in
theorem rop_l (sb : Bool) (hg : goodB o.R o.N = true) (ht : 1 ≤ o.T) (hk : 4 < o.K) : Calls Tryz.prog 7 #[opv o] w fun e w' => e = .returned (.bool (ropB o sb zb vb)) ∧ Below w.heap.size w w' := by
  have hh : Hid (ropB o sb zb vb = false) := by
    have : headB o = false := by unfold headB; simp; omega
    unfold Hid ropB; rw [this]; rfl
  have hS : Sees w (w.alloc (Obj.cells o.c 32)) [(w.heap.size, Obj.cells o.c 32)] := (Sees.start w).alloc _
  have a0 := OpV.g0 (o := o)
  have a1 := OpV.g1 (o := o)
  have a2 := OpV.g2 (o := o)
  have a70 := OpV.g70 ho
  have a73 := OpV.g73 ho
  have a67 := OpV.g67 ho
  have ht2 : decide (o.T < 1) = false := (by simp; omega); have hk2 : decide (o.K < 1) = false := (by simp; omega)
  go_enter Tryz.func7, Tryz.ntmps7
  go_wp2_with (first | go_skip | (refine load_part rfl 23 (.tmp 4) rfl _ 0 rfl _ _ (0, 0) _ _ hS.g0 OpV.pId Tryz.underlying23 rfl (id_info _ _) ?_) | (go_at_call 19; with_reducible (refine (r20Good_is hg _).mono ?_); rintro e wn ⟨rfl, hbn⟩; have hS1 := hS.step hbn; clear hS hbn; have hS := hS1; clear hS1; (try clear c2 c67 c73); have c2 := (cell_of_row _ _ _ _ _ _ hS.g0).trans (OpV.g2 (o := o)); have c67 := (cell_of_row _ _ _ _ _ _ hS.g0).trans a67; have c73 := (cell_of_row _ _ _ _ _ _ hS.g0).trans (OpV.g73 ho)))
  go_ret
  exact ⟨ret_bool hh.out.symm, hS.below⟩
set_option maxRecDepth 100000 in
set_option maxHeartbeats 1000000 in
theorem rop_m (sb : Bool) (hg : goodB o.R o.N = true) (ht : 1 ≤ o.T) (hk : 1 ≤ o.K) (hk4 : o.K ≤ 4) (hm : o.M < 0) : Calls Tryz.prog 7 #[opv o] w fun e w' => e = .returned (.bool (ropB o sb zb vb)) ∧ Below w.heap.size w w' := by
  have hh : Hid (ropB o sb zb vb = false) := by
    have : headB o = false := by unfold headB; simp; omega
    unfold Hid ropB; rw [this]; rfl
  have hS : Sees w (w.alloc (Obj.cells o.c 32)) [(w.heap.size, Obj.cells o.c 32)] := (Sees.start w).alloc _
  have a0 := OpV.g0 (o := o)
  have a1 := OpV.g1 (o := o)
  have a2 := OpV.g2 (o := o)
  have a70 := OpV.g70 ho
  have a73 := OpV.g73 ho
  have a67 := OpV.g67 ho
  have ht2 : decide (o.T < 1) = false := (by simp; omega); have hk2 : decide (o.K < 1) = false := (by simp; omega); have hk3 : decide (4 < o.K) = false := (by simp; omega)
  go_enter Tryz.func7, Tryz.ntmps7
  go_wp2_with (first | go_skip | (refine load_part rfl 23 (.tmp 4) rfl _ 0 rfl _ _ (0, 0) _ _ hS.g0 OpV.pId Tryz.underlying23 rfl (id_info _ _) ?_) | (go_at_call 19; with_reducible (refine (r20Good_is hg _).mono ?_); rintro e wn ⟨rfl, hbn⟩; have hS1 := hS.step hbn; clear hS hbn; have hS := hS1; clear hS1; (try clear c2 c67 c73); have c2 := (cell_of_row _ _ _ _ _ _ hS.g0).trans (OpV.g2 (o := o)); have c67 := (cell_of_row _ _ _ _ _ _ hS.g0).trans a67; have c73 := (cell_of_row _ _ _ _ _ _ hS.g0).trans (OpV.g73 ho)))
  go_ret
  exact ⟨ret_bool hh.out.symm, hS.below⟩
set_option maxRecDepth 100000 in
set_option maxHeartbeats 1000000 in
theorem rop_n (sb : Bool) (hg : goodB o.R o.N = true) (ht : 1 ≤ o.T) (hk : 1 ≤ o.K) (hk4 : o.K ≤ 4) (hm : 2 < o.M) : Calls Tryz.prog 7 #[opv o] w fun e w' => e = .returned (.bool (ropB o sb zb vb)) ∧ Below w.heap.size w w' := by
  have hh : Hid (ropB o sb zb vb = false) := by
    have : headB o = false := by unfold headB; simp; omega
    unfold Hid ropB; rw [this]; rfl
  have hS : Sees w (w.alloc (Obj.cells o.c 32)) [(w.heap.size, Obj.cells o.c 32)] := (Sees.start w).alloc _
  have a0 := OpV.g0 (o := o)
  have a1 := OpV.g1 (o := o)
  have a2 := OpV.g2 (o := o)
  have a70 := OpV.g70 ho
  have a73 := OpV.g73 ho
  have a67 := OpV.g67 ho
  have ht2 : decide (o.T < 1) = false := (by simp; omega); have hk2 : decide (o.K < 1) = false := (by simp; omega); have hk3 : decide (4 < o.K) = false := (by simp; omega); have hm2 : decide (o.M < 0) = false := (by simp; omega)
  go_enter Tryz.func7, Tryz.ntmps7
  go_wp2_with (first | go_skip | (refine load_part rfl 23 (.tmp 4) rfl _ 0 rfl _ _ (0, 0) _ _ hS.g0 OpV.pId Tryz.underlying23 rfl (id_info _ _) ?_) | (go_at_call 19; with_reducible (refine (r20Good_is hg _).mono ?_); rintro e wn ⟨rfl, hbn⟩; have hS1 := hS.step hbn; clear hS hbn; have hS := hS1; clear hS1; (try clear c2 c67 c73); have c2 := (cell_of_row _ _ _ _ _ _ hS.g0).trans (OpV.g2 (o := o)); have c67 := (cell_of_row _ _ _ _ _ _ hS.g0).trans a67; have c73 := (cell_of_row _ _ _ _ _ _ hS.g0).trans (OpV.g73 ho)))
  go_ret
  exact ⟨ret_bool hh.out.symm, hS.below⟩
end
end Go.Proofs.YtjjiiaclgacfiaaGreatDoor
