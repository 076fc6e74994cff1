/-
  The reference's Value tells what is written here, for all trees. Condition: what plain tells is known.
  The reference's zero tells what is written here, for all trees. No condition.
  The reference's Op tells what is written here, for all operations. Condition: what zero, Value tell is known.
  value.Good and the reference's Value tell the same, for all trees: plain Lean. No condition.
-/
import Derived.Test.YteplcnpmdjdlkaaGreatDoorRPlainWJ
import Derived.Test.YteplcnpmdjdlkaaGreatDoorRSameJ
import Derived.Test.YteplcnpmdjdlkaaGreatDoorOpGoodJ
import Derived.Test.YteplcnpmdjdlkaaGreatDoorJ8
namespace Go.Proofs.YteplcnpmdjdlkaaGreatDoor
open Go.RowKit
set_option linter.unusedVariables false
set_option linter.unusedSimpArgs false
def valueB (t : VT) : Bool := !heavyB t 4096 32 && plainT t
section
set_option maxHeartbeats 1000000 in
theorem rvalue_one (t : VT) (HP : PlainOk t) (w : World) (ht : VT.In w.heap.size w t) : Calls Tryz.prog 30 #[.agg t.c] w fun e w' => e = .returned (.bool (valueB t)) ∧ Below w.heap.size w w' := by
  have hS : Sees w (w.alloc (Obj.cells t.c 34)) [(w.heap.size, Obj.cells t.c 34)] := (Sees.start w).alloc _
  have cH := fun W (hW : Below w.heap.size w W) => heavy_any t 4096 32 W (by omega) (by omega) (by omega) (by omega) ((ht.move hW).up hW.size)
  have CP := Lib.hid (fun W (hW : Below w.heap.size w W) => HP W ((ht.move hW).up hW.size))
  unfold valueB
  clear ht HP
  cases hv : heavyB t 4096 32
  · rw [hv] at cH
    have CH := Lib.hid cH
    clear cH hv
    go_enter Tryz.func30, Tryz.ntmps30
    go_wp2_with (first | go_skip | (refine wpList_load_row' rfl 34 (.tmp 1) rfl _ rfl 34 _ (0, 0) _ hS.g0 Tryz.underlying34 rfl (VT.val_info _) ?_) | (go_at_call 44; with_reducible (refine (CH.out _ hS.below).mono ?_); rintro e wn ⟨rfl, hbn⟩; have hS1 := hS.step hbn; clear hS hbn; have hS := hS1; clear hS1) | (go_at_call 45; with_reducible (refine (CP.out _ hS.below).mono ?_); rintro e wn ⟨rfl, hbn⟩; have hS1 := hS.step hbn; clear hS hbn; have hS := hS1; clear hS1))
    go_ret
    exact ⟨ret_bool rfl, hS.below⟩
  · rw [hv] at cH
    have CH := Lib.hid cH
    clear cH hv
    go_enter Tryz.func30, Tryz.ntmps30
    go_wp2_with (first | go_skip | (refine wpList_load_row' rfl 34 (.tmp 1) rfl _ rfl 34 _ (0, 0) _ hS.g0 Tryz.underlying34 rfl (VT.val_info _) ?_) | (go_at_call 44; with_reducible (refine (CH.out _ hS.below).mono ?_); rintro e wn ⟨rfl, hbn⟩; have hS1 := hS.step hbn; clear hS hbn; have hS := hS1; clear hS1) | (go_at_call 45; with_reducible (refine (CP.out _ hS.below).mono ?_); rintro e wn ⟨rfl, hbn⟩; have hS1 := hS.step hbn; clear hS hbn; have hS := hS1; clear hS1))
    go_ret
    exact ⟨ret_bool rfl, hS.below⟩
theorem rvalue_any (HP : ∀ t, PlainOk t) (t : VT) (w : World) (ht : VT.In w.heap.size w t) : Calls Tryz.prog 30 #[.agg t.c] w fun e w' => e = .returned (.bool (valueB t)) ∧ Below w.heap.size w w' := rvalue_one t (HP t) w ht
end
end Go.Proofs.YteplcnpmdjdlkaaGreatDoor
namespace Go.Proofs.YteplcnpmdjdlkaaGreatDoor
open Go.RowKit
set_option linter.unusedVariables false
set_option linter.unusedSimpArgs false
set_option maxHeartbeats 1000000 in
theorem rzero_any (a : VT) (w : World) (ha : VT.In w.heap.size w a) : Calls Tryz.prog 29 #[.agg a.c] w fun e w' => e = .returned (.bool (sameV a .no)) ∧ Below w.heap.size w w' := by
  have H := Lib.hid (fun (W : World) (hW : Below w.heap.size w W) => rsame_v a .no W ((ha.move hW).up hW.size) (VT.no_in _ _))
  have hS0 : Sees w (w.alloc (Obj.cells a.c 34)) [(w.heap.size, Obj.cells a.c 34)] := (Sees.start w).alloc _
  clear ha
  go_enter Tryz.func29, Tryz.ntmps29
  go_wp2_with (first | go_skip | (refine wpList_load_row' rfl 34 (.tmp 1) rfl _ rfl 34 _ (0, 0) _ hS0.g0 Tryz.underlying34 rfl (VT.val_info _) ?_) | (go_at_call 31; refine (H.out _ hS0.below).mono ?_; rintro e w1 ⟨rfl, hb1⟩))
  go_ret
  exact ⟨ret_bool rfl, (hS0.step hb1).below⟩
end Go.Proofs.YteplcnpmdjdlkaaGreatDoor
namespace Go.Proofs.YteplcnpmdjdlkaaGreatDoor
open Go.RowKit
set_option linter.unusedVariables false
set_option linter.unusedSimpArgs false
set_option linter.unusedSectionVars false
theorem run_index_arr {P : Program} (t e : TypeId) (ht : P.underlying t = some (.array 64 e)) (hs : (P.info? e).map (·.size) = some 1) {b i0 : Nat} (i : Int) (h0 : 1 ≤ i) (h1 : i ≤ 64) (w : World) :
    (Instr.indexAt t (.pointer (some ⟨b, i0, none⟩)) (.int .i64 (i - 1))).run P w = .ok (.pointer (some ⟨b, i0 + (i.toNat - 1), none⟩)) w := by
  obtain ⟨i1, hq, hs⟩ := Option.map_eq_some_iff.1 hs
  obtain ⟨k, rfl⟩ : ∃ k : Nat, i = (k : Int) + 1 := ⟨(i - 1).toNat, by omega⟩
  have hk : k < 64 := by omega
  have hadd : (⟨b, i0, none⟩ : Addr).add k = ⟨b, i0 + k, none⟩ := by unfold Addr.add; split <;> simp_all
  have e1 : (k : Int) + 1 - 1 = (k : Int) := by omega
  have e2 : ((k : Int) + 1).toNat - 1 = k := by omega
  have hlt : (k : Int) < (64 : Nat) := by omega
  rw [e1, e2]
  simp [Instr.indexAt, Instr.sureAddr, run_underlying ht, asIntOf, sizeOf, typeInfo, hq, hs, hk, hadd]
theorem quiet_index {P : Program} {o : Oper} {a : Act} {C : World → Prop} {K : Act → Prop} (t : TypeId) (x i : Operand) (ho : o.op = .indexAddr t x i) (v : Value) (hrun : ∀ w, C w → (Instr.indexAt t (a.eval x) (a.eval i)).run P w = .ok v w)
    (h : K (a.put o.dst v)) : o.quiet P a C K := by
  refine ⟨_, fun w hw => ?_, h⟩
  unfold Oper.quietAt execOp
  simp only [ho, Sem.run_bind, Sem.run_pure, Result.andThen_ok, hrun w hw]
  exact ⟨rfl, rfl⟩
/-- May a vector's k-th number be? -/
def inB (o : OpV) (k : Nat) : Bool := decide (0 ≤ vat o.seen k) && decide (vat o.seen k ≤ 60)
def objB (o : OpV) : Bool := o.OR == 0 && o.ON == 0
def atB (o : OpV) : Bool := o.AR == 0 && o.AN == 0
def headB (o : OpV) : Bool := goodB o.R o.N && decide (1 ≤ o.T) && decide (1 ≤ o.K) && decide (o.K ≤ 4) && decide (0 ≤ o.M) && decide (o.M ≤ 2)
def tailB (o : OpV) (sb zb vb : Bool) : Bool :=
  (if o.K ≤ 2 then sb && atB o else o.key.toList.isEmpty && !objB o && !(atB o && o.K == 4) && (atB o || hasB o.seen o.AR o.AN)) &&
    (if o.K == 2 || o.K == 4 then o.M == 0 && zb else if o.M == 0 then vb && o.VK != 5 && o.VK != 6 else zb)
def ropB (o : OpV) (sb zb vb : Bool) : Bool :=
  headB o && allTo (inB o) 64 && (vat o.seen (o.R.toNat - 1) == o.N - 1) && (objB o || hasB o.seen o.OR o.ON) && tailB o sb zb vb
section
variable (o : OpV) (zb vb : Bool) (w : World) (ho : o.seen.length = 64)
  (HZ : Hid (∀ W, Below w.heap.size w W → Calls Tryz.prog 29 #[.agg o.vc] W fun e w' => e = .returned (.bool zb) ∧ Below W.heap.size W w'))
  (HV : Hid (∀ W, Below w.heap.size w W → Calls Tryz.prog 30 #[.agg o.vc] W fun e w' => e = .returned (.bool vb) ∧ Below W.heap.size W w'))
include ho HZ HV
set_option maxRecDepth 100000 in
set_option maxHeartbeats 1000000 in
theorem rop_g (sb : Bool) (hg : goodB o.R o.N = false) : Calls Tryz.prog 14 #[opv o] w fun e w' => e = .returned (.bool (ropB o sb zb vb)) ∧ Below w.heap.size w w' := by
  have hh : Hid (ropB o sb zb vb = false) := by
    have : headB o = false := by unfold headB; rw [hg]; rfl
    unfold Hid ropB; rw [this]; rfl
  have hS : Sees w (w.alloc (Obj.cells o.c 36)) [(w.heap.size, Obj.cells o.c 36)] := (Sees.start w).alloc _
  have a0 := OpV.g0 (o := o)
  have a1 := OpV.g1 (o := o)
  have a2 := OpV.g2 (o := o)
  have a70 := OpV.g70 ho
  have a73 := OpV.g73 ho
  have a67 := OpV.g67 ho
  skip
  go_enter Tryz.func14, Tryz.ntmps14
  go_wp2_with (first | go_skip | (refine load_part rfl 27 (.tmp 4) rfl _ 0 rfl _ _ (0, 0) _ _ hS.g0 OpV.pId Tryz.underlying27 rfl (id_info _ _) ?_) | (go_at_call 27; with_reducible (refine (r20Good_is hg _).mono ?_); rintro e wn ⟨rfl, hbn⟩; have hS1 := hS.step hbn; clear hS hbn; have hS := hS1; clear hS1; (try clear c2 c67 c73); have c2 := (cell_of_row _ _ _ _ _ _ hS.g0).trans (OpV.g2 (o := o)); have c67 := (cell_of_row _ _ _ _ _ _ hS.g0).trans a67; have c73 := (cell_of_row _ _ _ _ _ _ hS.g0).trans (OpV.g73 ho)))
  go_ret
  exact ⟨ret_bool hh.out.symm, hS.below⟩
set_option maxRecDepth 100000 in
set_option maxHeartbeats 1000000 in
theorem rop_t (sb : Bool) (hg : goodB o.R o.N = true) (ht : o.T < 1) : Calls Tryz.prog 14 #[opv o] w fun e w' => e = .returned (.bool (ropB o sb zb vb)) ∧ Below w.heap.size w w' := by
  have hh : Hid (ropB o sb zb vb = false) := by
    have : headB o = false := by unfold headB; simp; omega
    unfold Hid ropB; rw [this]; rfl
  have hS : Sees w (w.alloc (Obj.cells o.c 36)) [(w.heap.size, Obj.cells o.c 36)] := (Sees.start w).alloc _
  have a0 := OpV.g0 (o := o)
  have a1 := OpV.g1 (o := o)
  have a2 := OpV.g2 (o := o)
  have a70 := OpV.g70 ho
  have a73 := OpV.g73 ho
  have a67 := OpV.g67 ho
  skip
  go_enter Tryz.func14, Tryz.ntmps14
  go_wp2_with (first | go_skip | (refine load_part rfl 27 (.tmp 4) rfl _ 0 rfl _ _ (0, 0) _ _ hS.g0 OpV.pId Tryz.underlying27 rfl (id_info _ _) ?_) | (go_at_call 27; with_reducible (refine (r20Good_is hg _).mono ?_); rintro e wn ⟨rfl, hbn⟩; have hS1 := hS.step hbn; clear hS hbn; have hS := hS1; clear hS1; (try clear c2 c67 c73); have c2 := (cell_of_row _ _ _ _ _ _ hS.g0).trans (OpV.g2 (o := o)); have c67 := (cell_of_row _ _ _ _ _ _ hS.g0).trans a67; have c73 := (cell_of_row _ _ _ _ _ _ hS.g0).trans (OpV.g73 ho)))
  go_ret
  exact ⟨ret_bool hh.out.symm, hS.below⟩
set_option maxRecDepth 100000 in
set_option maxHeartbeats 1000000 in
theorem rop_k (sb : Bool) (hg : goodB o.R o.N = true) (ht : 1 ≤ o.T) (hk : o.K < 1) : Calls Tryz.prog 14 #[opv o] w fun e w' => e = .returned (.bool (ropB o sb zb vb)) ∧ Below w.heap.size w w' := by
  have hh : Hid (ropB o sb zb vb = false) := by
    have : headB o = false := by unfold headB; simp; omega
    unfold Hid ropB; rw [this]; rfl
  have hS : Sees w (w.alloc (Obj.cells o.c 36)) [(w.heap.size, Obj.cells o.c 36)] := (Sees.start w).alloc _
  have a0 := OpV.g0 (o := o)
  have a1 := OpV.g1 (o := o)
  have a2 := OpV.g2 (o := o)
  have a70 := OpV.g70 ho
  have a73 := OpV.g73 ho
  have a67 := OpV.g67 ho
  have ht2 : decide (o.T < 1) = false := (by simp; omega)
  go_enter Tryz.func14, Tryz.ntmps14
  go_wp2_with (first | go_skip | (refine load_part rfl 27 (.tmp 4) rfl _ 0 rfl _ _ (0, 0) _ _ hS.g0 OpV.pId Tryz.underlying27 rfl (id_info _ _) ?_) | (go_at_call 27; with_reducible (refine (r20Good_is hg _).mono ?_); rintro e wn ⟨rfl, hbn⟩; have hS1 := hS.step hbn; clear hS hbn; have hS := hS1; clear hS1; (try clear c2 c67 c73); have c2 := (cell_of_row _ _ _ _ _ _ hS.g0).trans (OpV.g2 (o := o)); have c67 := (cell_of_row _ _ _ _ _ _ hS.g0).trans a67; have c73 := (cell_of_row _ _ _ _ _ _ hS.g0).trans (OpV.g73 ho)))
  go_ret
  exact ⟨ret_bool hh.out.symm, hS.below⟩
set_option maxRecDepth 100000 in
set_option maxHeartbeats 1000000 in
theorem rop_l (sb : Bool) (hg : goodB o.R o.N = true) (ht : 1 ≤ o.T) (hk : 4 < o.K) : Calls Tryz.prog 14 #[opv o] w fun e w' => e = .returned (.bool (ropB o sb zb vb)) ∧ Below w.heap.size w w' := by
  have hh : Hid (ropB o sb zb vb = false) := by
    have : headB o = false := by unfold headB; simp; omega
    unfold Hid ropB; rw [this]; rfl
  have hS : Sees w (w.alloc (Obj.cells o.c 36)) [(w.heap.size, Obj.cells o.c 36)] := (Sees.start w).alloc _
  have a0 := OpV.g0 (o := o)
  have a1 := OpV.g1 (o := o)
  have a2 := OpV.g2 (o := o)
  have a70 := OpV.g70 ho
  have a73 := OpV.g73 ho
  have a67 := OpV.g67 ho
  have ht2 : decide (o.T < 1) = false := (by simp; omega); have hk2 : decide (o.K < 1) = false := (by simp; omega)
  go_enter Tryz.func14, Tryz.ntmps14
  go_wp2_with (first | go_skip | (refine load_part rfl 27 (.tmp 4) rfl _ 0 rfl _ _ (0, 0) _ _ hS.g0 OpV.pId Tryz.underlying27 rfl (id_info _ _) ?_) | (go_at_call 27; with_reducible (refine (r20Good_is hg _).mono ?_); rintro e wn ⟨rfl, hbn⟩; have hS1 := hS.step hbn; clear hS hbn; have hS := hS1; clear hS1; (try clear c2 c67 c73); have c2 := (cell_of_row _ _ _ _ _ _ hS.g0).trans (OpV.g2 (o := o)); have c67 := (cell_of_row _ _ _ _ _ _ hS.g0).trans a67; have c73 := (cell_of_row _ _ _ _ _ _ hS.g0).trans (OpV.g73 ho)))
  go_ret
  exact ⟨ret_bool hh.out.symm, hS.below⟩
set_option maxRecDepth 100000 in
set_option maxHeartbeats 1000000 in
theorem rop_m (sb : Bool) (hg : goodB o.R o.N = true) (ht : 1 ≤ o.T) (hk : 1 ≤ o.K) (hk4 : o.K ≤ 4) (hm : o.M < 0) : Calls Tryz.prog 14 #[opv o] w fun e w' => e = .returned (.bool (ropB o sb zb vb)) ∧ Below w.heap.size w w' := by
  have hh : Hid (ropB o sb zb vb = false) := by
    have : headB o = false := by unfold headB; simp; omega
    unfold Hid ropB; rw [this]; rfl
  have hS : Sees w (w.alloc (Obj.cells o.c 36)) [(w.heap.size, Obj.cells o.c 36)] := (Sees.start w).alloc _
  have a0 := OpV.g0 (o := o)
  have a1 := OpV.g1 (o := o)
  have a2 := OpV.g2 (o := o)
  have a70 := OpV.g70 ho
  have a73 := OpV.g73 ho
  have a67 := OpV.g67 ho
  have ht2 : decide (o.T < 1) = false := (by simp; omega); have hk2 : decide (o.K < 1) = false := (by simp; omega); have hk3 : decide (4 < o.K) = false := (by simp; omega)
  go_enter Tryz.func14, Tryz.ntmps14
  go_wp2_with (first | go_skip | (refine load_part rfl 27 (.tmp 4) rfl _ 0 rfl _ _ (0, 0) _ _ hS.g0 OpV.pId Tryz.underlying27 rfl (id_info _ _) ?_) | (go_at_call 27; with_reducible (refine (r20Good_is hg _).mono ?_); rintro e wn ⟨rfl, hbn⟩; have hS1 := hS.step hbn; clear hS hbn; have hS := hS1; clear hS1; (try clear c2 c67 c73); have c2 := (cell_of_row _ _ _ _ _ _ hS.g0).trans (OpV.g2 (o := o)); have c67 := (cell_of_row _ _ _ _ _ _ hS.g0).trans a67; have c73 := (cell_of_row _ _ _ _ _ _ hS.g0).trans (OpV.g73 ho)))
  go_ret
  exact ⟨ret_bool hh.out.symm, hS.below⟩
set_option maxRecDepth 100000 in
set_option maxHeartbeats 1000000 in
theorem rop_n (sb : Bool) (hg : goodB o.R o.N = true) (ht : 1 ≤ o.T) (hk : 1 ≤ o.K) (hk4 : o.K ≤ 4) (hm : 2 < o.M) : Calls Tryz.prog 14 #[opv o] w fun e w' => e = .returned (.bool (ropB o sb zb vb)) ∧ Below w.heap.size w w' := by
  have hh : Hid (ropB o sb zb vb = false) := by
    have : headB o = false := by unfold headB; simp; omega
    unfold Hid ropB; rw [this]; rfl
  have hS : Sees w (w.alloc (Obj.cells o.c 36)) [(w.heap.size, Obj.cells o.c 36)] := (Sees.start w).alloc _
  have a0 := OpV.g0 (o := o)
  have a1 := OpV.g1 (o := o)
  have a2 := OpV.g2 (o := o)
  have a70 := OpV.g70 ho
  have a73 := OpV.g73 ho
  have a67 := OpV.g67 ho
  have ht2 : decide (o.T < 1) = false := (by simp; omega); have hk2 : decide (o.K < 1) = false := (by simp; omega); have hk3 : decide (4 < o.K) = false := (by simp; omega); have hm2 : decide (o.M < 0) = false := (by simp; omega)
  go_enter Tryz.func14, Tryz.ntmps14
  go_wp2_with (first | go_skip | (refine load_part rfl 27 (.tmp 4) rfl _ 0 rfl _ _ (0, 0) _ _ hS.g0 OpV.pId Tryz.underlying27 rfl (id_info _ _) ?_) | (go_at_call 27; with_reducible (refine (r20Good_is hg _).mono ?_); rintro e wn ⟨rfl, hbn⟩; have hS1 := hS.step hbn; clear hS hbn; have hS := hS1; clear hS1; (try clear c2 c67 c73); have c2 := (cell_of_row _ _ _ _ _ _ hS.g0).trans (OpV.g2 (o := o)); have c67 := (cell_of_row _ _ _ _ _ _ hS.g0).trans a67; have c73 := (cell_of_row _ _ _ _ _ _ hS.g0).trans (OpV.g73 ho)))
  go_ret
  exact ⟨ret_bool hh.out.symm, hS.below⟩
end
end Go.Proofs.YteplcnpmdjdlkaaGreatDoor
namespace Go.Proofs.YteplcnpmdjdlkaaGreatDoor
set_option linter.unusedVariables false
set_option linter.unusedSimpArgs false
/-- What counts up to 4096 and what counts down from it say the same. -/
def Alike (p : Bool × Int) (h : Option Int) (q : Bool) : Prop := p.1 = (h.isSome && q) ∧ ∀ m, h = some m → q = true → p.2 = 4096 - m
theorem alike_run {p : Nat → Int → Bool × Int} {h : Nat → Int → Option Int} {q : Nat → Bool} (hp : ∀ i x, Alike (p i x) (h i (4096 - x)) (q i)) (n : Int) : ∀ k, Alike (runTo p k n) (foldO h k (4096 - n)) (allTo q k) := by
  intro k
  induction k with
  | zero => exact ⟨rfl, fun m hm _ => by simp [foldO] at hm; simp [runTo]; omega⟩
  | succ k ih =>
    obtain ⟨h1, h2⟩ := ih
    rw [runTo, foldO, allTo]
    cases hf : foldO h k (4096 - n) with
    | none =>
      rw [hf] at h1
      rw [if_neg (by rw [h1]; simp)]
      exact ⟨rfl, fun m hm _ => by cases hm⟩
    | some m =>
      cases ha : allTo q k with
      | false =>
        rw [hf, ha] at h1
        rw [if_neg (by rw [h1]; simp)]
        exact ⟨by simp, fun m _ hq => by cases hq⟩
      | true =>
        rw [hf, ha] at h1
        rw [if_pos (by rw [h1]; rfl), h2 m hf ha]
        have := hp k (4096 - m)
        rw [show (4096 : Int) - (4096 - m) = m by omega] at this
        rw [Bool.true_and]
        exact this
def JudgeAlike (t : VT) : Prop := ∀ deep n0, Alike (judgeT ownV letC t deep n0) (heavyT t (33 - deep) (4096 - n0)) (plainT t)
theorem no_alike : JudgeAlike .no := by
  intro deep n0
  unfold judgeT heavyT
  by_cases hc : (decide (33 - deep < 1) || decide (4096 - n0 < 1)) = true
  · rw [if_pos (by simp at hc ⊢; omega), if_pos hc]
    exact ⟨by simp, fun m hm _ => by cases hm⟩
  · rw [if_neg hc]
    cases ho : ownV .no with
    | false => rw [if_pos (by simp)]; exact ⟨by simp [plainT, ho], fun m _ hq => by simp [plainT, ho] at hq⟩
    | true => rw [if_neg (by simp at hc ⊢; omega)]; exact ⟨by simp [plainT, ho], fun m hm _ => by simp at hm ⊢; omega⟩
theorem judge_alike (t : VT) : JudgeAlike t := by
  have key : ∀ t : VT, (∀ i, JudgeAlike (t.lt i)) → (∀ i, JudgeAlike (t.mt i)) → JudgeAlike t := by
    intro t hl hm deep n0
    have hL := alike_run (p := judgeL ownV letC t deep) (h := hvL t (33 - deep)) (q := fun i => plainT (t.lt i)) (fun i x => by
      have := hl i (deep + 1) x
      rw [show (33 : Int) - (deep + 1) = 33 - deep - 1 by omega] at this
      exact this) (n0 + 1) t.ln
    have hM := fun x => alike_run (p := judgeM ownV letC t deep) (h := hvM t (33 - deep)) (q := fun i => keyB t.key i && plainT (t.mt i)) (fun i x => by
      have := hm i (deep + 1) x
      rw [show (33 : Int) - (deep + 1) = 33 - deep - 1 by omega] at this
      have hk : keyB t.key i = !(decide (0 < i) && !risesB (t.key (i - 1)) (t.key i) || !(letC (t.key i) == 0)) := by
        unfold keyB
        cases (letC (t.key i) == 0) <;> cases (decide (0 < i) && !risesB (t.key (i - 1)) (t.key i)) <;> rfl
      unfold judgeM hvM
      rw [hk]
      cases (decide (0 < i) && !risesB (t.key (i - 1)) (t.key i) || !(letC (t.key i) == 0)) with
      | true => exact ⟨by simp, fun m _ hq => by simp at hq⟩
      | false => rw [if_neg (by simp)]; simpa using this) x t.mn
    rw [judgeT_eq, heavyT_eq, plainT_eq]
    by_cases hc : (decide (33 - deep < 1) || decide (4096 - n0 < 1)) = true
    · rw [if_pos hc, if_pos (by simp at hc ⊢; omega)]
      exact ⟨by simp, fun m hm _ => by cases hm⟩
    rw [if_neg hc]
    cases ho : ownV t with
    | false =>
      rw [if_pos (by simp)]
      exact ⟨by simp, fun m _ hq => by simp at hq⟩
    | true =>
      rw [if_neg (by simp at hc ⊢; omega)]
      rw [show (4096 : Int) - n0 - 1 = 4096 - (n0 + 1) by omega]
      obtain ⟨l1, l2⟩ := hL
      cases hf : foldO (hvL t (33 - deep)) t.ln (4096 - (n0 + 1)) with
      | none =>
        rw [hf] at l1
        rw [if_neg (by rw [l1]; simp)]
        exact ⟨by simp, fun m hm _ => by cases hm⟩
      | some m =>
        cases ha : allTo (fun i => plainT (t.lt i)) t.ln with
        | false =>
          rw [hf, ha] at l1
          rw [if_neg (by rw [l1]; simp)]
          exact ⟨by simp, fun m _ hq => by simp at hq⟩
        | true =>
          rw [hf, ha] at l1
          rw [if_pos (by rw [l1]; rfl), l2 m hf ha]
          have := hM (4096 - m)
          rw [show (4096 : Int) - (4096 - m) = m by omega] at this
          simpa using this
  induction t with
  | no => exact no_alike
  | mk k n s lA lb lo ln lc lt mA mb mo mn mc ky mt ihl ihm => exact key _ (fun i => ihl i) (fun i => ihm i)
theorem good_value (t : VT) : goodT t = valueB t := by
  have := (judge_alike t 1 0).1
  unfold goodT valueB heavyB
  rw [this]
  show ((heavyT t 32 4096).isSome && plainT t) = _
  cases heavyT t 32 4096 <;> rfl
end Go.Proofs.YteplcnpmdjdlkaaGreatDoor
