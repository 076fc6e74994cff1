/-
  A region whose order is open: what each operation gave, each thing staying as memory grows; rows made by a slice's literal. No condition.
  doc.New, walked; Vec, Time; the greatest time of what was seen. No condition.
  An append of what lies in a row of its own, in a statement whose order is open. No condition.
-/
import Derived.Test.YtffcpmohanhihaaGreatDoorJ15
import Derived.Test.YtffcpmohanhihaaGreatDoorJ6
import Derived.Test.YtffcpmohanhihaaGreatDoorJ8
import Derived.Maps.AppendAt
namespace Go.Proofs.YtffcpmohanhihaaGreatDoor
open Go.RowKit
set_option linter.unusedVariables false
set_option linter.unusedSimpArgs false
set_option linter.unusedSectionVars false
/-- What each of the first n operations gave is as R says. -/
def EnvC (w0 : World) (n : Nat) (R : Nat → Value → World → Prop) (θ : Nat → Value) (L : Nat → Bool) (W : World) : Prop := Below w0.heap.size w0 W ∧ ∀ i, i < n → L i = true → R i (θ i) W
def Stab (w0 : World) (R : Nat → Value → World → Prop) : Prop := ∀ i v W W', Below w0.heap.size w0 W → R i v W → Below W.heap.size W W' → R i v W'
theorem EnvC.start {w0 : World} {n : Nat} {R : Nat → Value → World → Prop} : ∃ θ, EnvC w0 n R θ (fun _ => false) { w0 with drawn := w0.drawn + 1 } := ⟨fun _ => undef, (Below.refl _ _).drew, fun i _ h => by cases h⟩
theorem EnvC.put {w0 : World} {n : Nat} {R : Nat → Value → World → Prop} {θ : Nat → Value} {L : Nat → Bool} {W W' : World} (hs : Stab w0 R) (h : EnvC w0 n R θ L W) {i : Nat} {v : Value} (hb : Below W.heap.size W W') (hR : R i v W') : EnvC w0 n R (updV θ i v) (updL L i) W' := by
  refine ⟨h.1.trans (hb.mono h.1.size), fun j hj hl => ?_⟩
  by_cases hji : j = i
  · subst hji; rw [updV_same]; exact hR
  · rw [updV_ne _ _ hji]
    rw [updL_ne _ hji] at hl
    exact hs j _ W W' h.1 (h.2 j hj hl) hb
theorem EnvC.keep {w0 : World} {n : Nat} {R : Nat → Value → World → Prop} {θ : Nat → Value} {L : Nat → Bool} {W : World} (hs : Stab w0 R) (h : EnvC w0 n R θ L W) {i : Nat} {v : Value} (hR : R i v W) : EnvC w0 n R (updV θ i v) (updL L i) W := h.put hs (Below.refl _ _) hR
section
variable {P : Program} {o : Oper} {a : Act} {w : World} {R : Value → World → Prop}
theorem gives_load_cells (ty : TypeId) (x : Operand) (ho : o.op = .load ty x) (b i : Nat) (hx : a.eval x = .pointer (some ⟨b, i, none⟩)) (cs : Array Value) (d : TypeDesc) (hc : ∀ j v, cs[j]? = some v → w.cell? ⟨b, i + j, none⟩ = some v)
    (hu : P.underlying ty = some d) (hd : (match d with | .struct _ | .array _ _ => true | _ => false) = true) (hi : (P.info? ty).map (·.size) = some cs.size) (h : R (.agg cs) w) : gives P o a w R := by
  unfold gives execOp
  simp only [ho, hx, Instr.loadAt, Instr.sureAddr, Sem.run_bind, Sem.run_pure, Result.andThen_ok, run_load_cells w b i ty cs d hc hu hd hi]
  exact h
theorem gives_load_cellw (ty : TypeId) (x : Operand) (ho : o.op = .load ty x) (b i : Nat) (hx : a.eval x = .pointer (some ⟨b, i, none⟩)) (u : Value) (d : TypeDesc) (hc : w.cell? ⟨b, i, none⟩ = some u)
    (hu : P.underlying ty = some d) (hd : (match d with | .struct _ | .array _ _ => false | _ => true) = true) (h : R u w) : gives P o a w R := by
  have hagg : (isAgg ty).run P w = .ok false w := by
    unfold isAgg
    rw [Sem.run_bind, run_underlying hu w]
    cases d <;> simp_all
  have hl : (loadVar ty ⟨b, i, none⟩).run P w = .ok u w := by simp [loadVar, Sem.run_bind, hagg, hc]
  unfold gives execOp
  simp only [ho, hx, Instr.loadAt, Instr.sureAddr, Sem.run_bind, Sem.run_pure, Result.andThen_ok, hl]
  exact h
theorem gives_slice (t : TypeId) (len : Nat) (ps : Array (Nat × Operand)) (ho : o.op = .buildSlice t len ps) (vs : Array (Nat × Value)) (hx : ps.map (fun p => (p.1, a.eval p.2)) = vs) (cs : Array Value) (e : TypeId)
    (hr : (Instr.buildSlice t len vs).run P w = .ok (.slice (some ⟨w.heap.size, 0, none⟩) len len) (w.alloc (.cells cs e)))
    (h : R (.slice (some ⟨w.heap.size, 0, none⟩) len len) (w.alloc (.cells cs e))) : gives P o a w R := by
  have hrun : (execOp a.eval o).run P w = .ok (.value (.slice (some ⟨w.heap.size, 0, none⟩) len len)) (w.alloc (.cells cs e)) := by
    unfold execOp
    have hx' : (ps.map fun (i, x) => (i, a.eval x)) = vs := hx
    simp only [ho, Sem.run_bind, hx', hr, Result.andThen_ok, Sem.run_pure]
  unfold gives
  rw [hrun]
  exact h
theorem gives_build (t : TypeId) (ps : Array (Nat × Operand)) (ho : o.op = .build t ps) (vs : Array (Nat × Value)) (hx : ps.map (fun p => (p.1, a.eval p.2)) = vs) (v : Value)
    (hr : ∀ W, (Instr.build t vs).run P W = .ok v W) (h : R v w) : gives P o a w R := by
  have hrun : (execOp a.eval o).run P w = .ok (.value v) w := by
    unfold execOp
    have hx' : (ps.map fun (i, x) => (i, a.eval x)) = vs := hx
    simp only [ho, Sem.run_bind, hx', hr, Result.andThen_ok, Sem.run_pure]
  unfold gives
  rw [hrun]
  exact h
end
section
variable {P : Program} {ops : Array Oper} {rest : List Oper} {o : Oper} {a : Act} {w : World} {Q : Exit → Act → World → Prop}
/-- A row made: the world behind it under a name of its own. -/
theorem slice_arm (hwt : Region.wanted o (yielded ops a.tmps) = true) (t : TypeId) (len : Nat) (ps : Array (Nat × Operand)) (ho : o.op = .buildSlice t len ps) (vs : Array (Nat × Value)) (hx : ps.map (fun p => (p.1, a.eval p.2)) = vs) (cs : Array Value) (e : TypeId)
    (hr : (Instr.buildSlice t len vs).run P w = .ok (.slice (some ⟨w.heap.size, 0, none⟩) len len) (w.alloc (.cells cs e)))
    (h : ∀ w', Below w.heap.size w w' → w'.heap[w.heap.size]? = some (.cells cs e (0, 0)) → wpList P ops Q rest (a.put o.dst (.slice (some ⟨w.heap.size, 0, none⟩) len len)) w') : wpList P ops Q (o :: rest) a w :=
  BigFrame.wpList_want hwt fun K hK => by
    have hrun : (execOp a.eval o).run P w = .ok (.value (.slice (some ⟨w.heap.size, 0, none⟩) len len)) (w.alloc (.cells cs e)) := by
      unfold execOp
      have hx' : (ps.map fun (i, x) => (i, a.eval x)) = vs := hx
      simp only [ho, Sem.run_bind, hx', hr, Result.andThen_ok, Sem.run_pure]
    unfold Oper.wp
    rw [hrun, Oper.upon_value]
    exact hK _ _ (h _ (Below.alloc (Below.refl _ _) (Nat.le_refl _) _) (heap_alloc_new _ _))
/-- A block made: .. and how many there are then. -/
theorem alloc_armz (hwt : Region.wanted o (yielded ops a.tmps) = true) (ty : TypeId) (ho : o.op = .alloc ty) {z : Obj} (hr : (Instr.alloc ty true (.tuple #[])).run P w = .ok (.pointer (some ⟨w.heap.size, 0, none⟩)) (w.alloc z))
    (h : ∀ w', Below w.heap.size w w' → w'.heap[w.heap.size]? = some z → w'.heap.size = w.heap.size + 1 → wpList P ops Q rest (a.put o.dst (.pointer (some ⟨w.heap.size, 0, none⟩))) w') : wpList P ops Q (o :: rest) a w :=
  BigFrame.wpList_want hwt fun K hK => by
    have hrun : (execOp a.eval o).run P w = .ok (.value (.pointer (some ⟨w.heap.size, 0, none⟩))) (w.alloc z) := by
      unfold execOp
      simp only [ho, Sem.run_bind, hr, Result.andThen_ok, Sem.run_pure]
    unfold Oper.wp
    rw [hrun, Oper.upon_value]
    exact hK _ _ (h _ (Below.alloc (Below.refl _ _) (Nat.le_refl _) z) (heap_alloc_new _ _) (Array.size_push ..))
theorem makes_arm (hwt : Region.wanted o (yielded ops a.tmps) = true) (t : TypeId) (l c : Operand) (ho : o.op = .makeSlice t l c) (lv cv : Value) (hl : a.eval l = lv) (hc : a.eval c = cv) (n : Nat) (cs : Array Value) (e : TypeId)
    (hr : (Instr.makeSlice t lv cv).run P w = .ok (.slice (some ⟨w.heap.size, 0, none⟩) n n) (w.alloc (.cells cs e)))
    (h : ∀ w', Below w.heap.size w w' → w'.heap[w.heap.size]? = some (.cells cs e (0, 0)) → wpList P ops Q rest (a.put o.dst (.slice (some ⟨w.heap.size, 0, none⟩) n n)) w') : wpList P ops Q (o :: rest) a w :=
  BigFrame.wpList_want hwt fun K hK => by
    have hrun : (execOp a.eval o).run P w = .ok (.value (.slice (some ⟨w.heap.size, 0, none⟩) n n)) (w.alloc (.cells cs e)) := by
      unfold execOp
      simp only [ho, hl, hc, Sem.run_bind, hr, Result.andThen_ok, Sem.run_pure]
    unfold Oper.wp
    rw [hrun, Oper.upon_value]
    exact hK _ _ (h _ (Below.alloc (Below.refl _ _) (Nat.le_refl _) _) (heap_alloc_new _ _))
theorem conv_arm (hwt : Region.wanted o (yielded ops a.tmps) = true) (src dst : TypeId) (x : Operand) (ho : o.op = .convert src dst x) (xv : Value) (hx : a.eval x = xv) (v : Value)
    (hr : (convert src dst xv).run P w = .ok v w) (h : wpList P ops Q rest (a.put o.dst v) w) : wpList P ops Q (o :: rest) a w :=
  BigFrame.wpList_want hwt fun K hK => by
    have hrun : (execOp a.eval o).run P w = .ok (.value v) w := by
      unfold execOp
      simp only [ho, hx, Sem.run_bind, hr, Result.andThen_ok, Sem.run_pure]
    unfold Oper.wp
    rw [hrun, Oper.upon_value]
    exact hK _ _ h
theorem build_arm (hwt : Region.wanted o (yielded ops a.tmps) = true) (t : TypeId) (ps : Array (Nat × Operand)) (ho : o.op = .build t ps) (vs : Array (Nat × Value)) (hx : ps.map (fun p => (p.1, a.eval p.2)) = vs) (v : Value)
    (hr : (Instr.build t vs).run P w = .ok v w) (h : wpList P ops Q rest (a.put o.dst v) w) : wpList P ops Q (o :: rest) a w :=
  BigFrame.wpList_want hwt fun K hK => by
    have hrun : (execOp a.eval o).run P w = .ok (.value v) w := by
      unfold execOp
      have hx' : (ps.map fun (i, x) => (i, a.eval x)) = vs := hx
      simp only [ho, Sem.run_bind, hx', hr, Result.andThen_ok, Sem.run_pure]
    unfold Oper.wp
    rw [hrun, Oper.upon_value]
    exact hK _ _ h
end
end Go.Proofs.YtffcpmohanhihaaGreatDoor
namespace Go.Proofs.YtffcpmohanhihaaGreatDoor
open Go.RowKit Go.Sort
set_option linter.unusedVariables false
set_option linter.unusedSimpArgs false
set_option linter.unusedSectionVars false
def Z64 : List Int := List.replicate 64 0
def s0 : DocS := ⟨Z64, 0, [], []⟩
theorem s0_ok : DocOk s0 := ⟨rfl, fun k hk => by
    have : vat Z64 k = 0 := by
      unfold vat Z64
      rw [List.getD_eq_getElem?_getD, List.getElem?_replicate]; split <;> rfl
    show 0 ≤ vat Z64 k ∧ vat Z64 k ≤ 60
    omega, ⟨by decide, by decide⟩, KeysIn.nil, fun p hp => (List.not_mem_nil hp).elim, WdOk.nil⟩
theorem mapd_under : Tryz.prog.underlying 70 = some (.map 31 68) := Tryz.underlying70
theorem mapops_under : Tryz.prog.underlying 67 = some (.map 31 40) := Tryz.underlying67
theorem build_doc (po pj : Nat) (W : World) : (Instr.build 72 #[(2, .map (some po)), (3, .map (some pj))]).run Tryz.prog W = .ok (.agg (docC Z64 0 po pj)) W := by kernel_rfl
theorem build_obj (d : Int) (m : Nat) (W : World) : (Instr.build 96 #[(0, .int .i64 d), (1, .pointer (some ⟨m, 0, none⟩))]).run Tryz.prog W = .ok (.agg #[.int .i64 d, .pointer (some ⟨m, 0, none⟩), .pointer none]) W := by kernel_rfl
theorem build_id0 (W : World) : (Instr.build 31 #[]).run Tryz.prog W = .ok (.agg #[.int .i64 0, .int .i64 0]) W := by kernel_rfl
section
variable {P : Program} {K V : Type} [DecidableEq K] {kf : K → Value} {vf : V → Value} {kt et t : TypeId} {Kd : K → Prop} {ops : Array Oper} {rest : List Oper} {o : Oper} {a : Act} {w : World} {b : Nat} {l : List (K × V)} {k : K} {Q : Exit → Act → World → Prop}
/-- An entry of a map's literal. -/
theorem insert_arm (hwt : Region.wanted o (yielded ops a.tmps) = true) (m x y : Operand) (ho : o.op = .insert t m x y) (F : KeyF P kt kf Kd) (ht : P.underlying t = some (.map kt et)) (hl : KeysIn Kd l) (hk : Kd k)
    (hm : a.eval m = .map (some b)) (hx : a.eval x = kf k) (v : V) (hv : a.eval y = vf v) (hb : w.heap[b]? = some (mapO kf vf l))
    (h : ∀ w', w'.heap[b]? = some (mapO kf vf (assocPut l k v)) → (∀ j, j ≠ b → w'.heap[j]? = w.heap[j]?) → Below b w w' → w'.heap.size = w.heap.size → wpList P ops Q rest (a.put o.dst (.tuple #[])) w') : wpList P ops Q (o :: rest) a w :=
  BigFrame.wpList_want hwt fun K' hK' => by
    unfold Oper.wp
    simp only [execOp, ho, hm, hx, hv, Sem.run_bind, run_update F ht hl hk hb v, Result.andThen_ok, Sem.run_pure, Oper.upon_value]
    exact hK' _ _ (h _ (turn_block hb) (fun j hj => turn_other hj) (turn_below _) (turn_size _))
end
set_option maxRecDepth 100000 in
set_option maxHeartbeats 1000000 in
theorem made_map (w : World) (d : Int) : Calls Tryz.prog 22 #[.int .i64 1, .int .i64 d] w fun e w' => ∃ x m b, e = .returned (.pointer (some ⟨x, 0, none⟩)) ∧ Boxes w w' [(b, wordsO []), (m, headO b), (x, objO d (some m) none)] := by
  have hS := Boxes.start w
  go_enter Tryz.func22, Tryz.ntmps22
  go_wp2_with (first | go_skip | (go_at_call 39; (with_reducible (refine (lNew_any _).mono ?_)); rintro e wn ⟨m, b, rfl, hbx⟩; have hS1 := hS.app hbx; simp only [List.nil_append] at hS1; clear hS hbx; have hS := hS1; clear hS1))
  go_ret
  exact ⟨_, _, _, rfl, hS.alloc _⟩
set_option maxRecDepth 100000 in
set_option maxHeartbeats 1000000 in
theorem dNew_any (w : World) : Calls Tryz.prog 10 #[] w fun e w' => ∃ B : DB, e = .returned (.pointer (some ⟨B.d, 0, none⟩)) ∧ Boxes w w' (docBoxes B s0) := by
  have hm := @run_makeMap Tryz.prog
  have b1 := Lib.hid build_doc
  have hS := ((Boxes.start w).alloc (Obj.map #[] 0)).alloc (Obj.map #[] 0)
  rw [show (w.alloc (Obj.map #[] 0)).heap.size = w.heap.size + 1 from Array.size_push ..] at hS
  simp only [List.nil_append, List.cons_append] at hS
  go_enter Tryz.func10, Tryz.ntmps10
  go_wp2_with (first | ((with_reducible refine gate_op (op := .insert 70 (.tmp 2) (.tmp 3) (.tmp 4)) rfl ?_); refine insert_arm (kf := idv) (vf := ptrv) (l := ([] : List (IDk × Nat))) (k := zID) rfl (.tmp 2) (.tmp 3) (.tmp 4) rfl id_key mapd_under KeysIn.nil zID_ok rfl rfl x rfl (hS.at_ 1 rfl) ?_; intro wn hgn hon hbn hsn; have hS1 := hS.put 1 rfl hon hbn hgn; simp only [List.set_cons_zero, List.set_cons_succ] at hS1; clear hS hgn hon hbn hsn; have hS := hS1; clear hS1) | ((with_reducible refine gate_op (op := .build 72 #[(2, .tmp 1), (3, .tmp 5)]) rfl ?_); refine build_arm rfl 72 #[(2, .tmp 1), (3, .tmp 5)] rfl #[(2, .map (some w.heap.size)), (3, .map (some (w.heap.size + 1)))] (by simp only [List.map_toArray, List.map_cons, List.map_nil]; rfl) _ (b1.out _ _ _) ?_) | go_skip | (go_at_call 22; (with_reducible (refine (made_map _ 1).mono ?_)); rintro e wn ⟨x, m, b, rfl, hbx⟩; have hS1 := hS.app hbx; simp only [List.nil_append, List.cons_append] at hS1; clear hS hbx; have hS := hS1; clear hS1))

  go_ret
  exact ⟨⟨_, _, _, _, _, _⟩, rfl, hS.alloc _⟩
theorem field_time (o : OpV) (W : World) : (Instr.field 40 (.agg o.c) 1).run Tryz.prog W = .ok (.int .i64 o.T) W := by
  have h : o.c[2]? = some (.int .i64 o.T) := OpV.g2
  have hd : (Instr.field 40 (.agg o.c) 1).run Tryz.prog W = (part 2 o.c 2).run Tryz.prog W := by kernel_rfl
  rw [hd]
  unfold part
  have hag : (isAgg 2).run Tryz.prog W = .ok false W := by kernel_rfl
  simp [Sem.run_bind, hag, h]
theorem look_ods (l : Ods) (k : IDk) : lookV false OT.v (.agg zeroO.c) (assoc l k) = .agg ((assoc l k).getD zOT).o.c := by
  cases assoc l k <;> rfl
theorem timeOf_is (l : Ods) (k : IDk) : ((assoc l k).getD zOT).o.T = timeOf l k := by
  unfold timeOf
  cases assoc l k <;> rfl
theorem doc_cell {B : DB} {s : DocS} {W : World} (h : DocAt B s W) {j : Nat} {u : Value} (hu : (docC s.v s.t B.po B.pj)[j]? = some u) : W.cell? ⟨B.d, j, none⟩ = some u := by
  rw [cell_of_row _ _ _ _ _ _ h.d]; exact hu
set_option maxRecDepth 100000 in
set_option maxHeartbeats 1000000 in
theorem dVec_any (B : DB) (s : DocS) (w : World) (hd : DocAt B s w) (hv : s.v.length = 64) : Calls Tryz.prog 14 #[.pointer (some ⟨B.d, 0, none⟩)] w fun e w' => e = .returned (.agg (vcells s.v)) ∧ Below w.heap.size w w' := by
  have HD := Lib.hid hd
  have hi := vec_info s.v hv
  have hS : Boxes w (w.alloc (Obj.cells (vcells (List.replicate 64 0)) 33)) [(w.heap.size, Obj.cells (vcells (List.replicate 64 0)) 33)] := (Boxes.start w).alloc _
  clear hd
  go_enter Tryz.func14, Tryz.ntmps14
  go_wp2_with (first | ((with_reducible refine gate_op (op := .load 33 (.tmp 5)) rfl ?_); refine load_part rfl 33 (.tmp 5) rfl _ 0 rfl _ _ (0, 0) _ _ (HD.out.move hS.below).d (docC_vec hv _ _ _) Tryz.underlying33 rfl hi ?_) | ((with_reducible refine gate_op (op := .store 33 (.tmp 2) (.tmp 6)) rfl ?_); refine wpList_store_row rfl 33 (.tmp 2) (.tmp 6) rfl _ (vcells s.v) rfl rfl 33 _ (hS.at_ 0 rfl) hi (by simp [vcells_size, hv]) (vcells_one _) ?_; intro wn hbn hgn hon hsn; have hS1 := hS.put 0 rfl hon hbn hgn; (try simp only [List.set_cons_zero] at hS1); clear hS hbn hgn hon hsn; have hS := hS1; clear hS1) | go_skip)
  exact bodyPost_ret (v := .agg (vcells s.v)) (results_cell_row rfl _ _ _ _ _ _ _ rfl (hS.at_ 0 rfl) Tryz.underlying33 rfl hi) rfl ⟨rfl, hS.below⟩
theorem sawTo_succ (l : Ods) (v : List Int) (k : Nat) : sawTo l v (k + 1) = if 0 < vat v k then (if sawTo l v k < timeOf l ((k : Int) + 1, vat v k) then timeOf l ((k : Int) + 1, vat v k) else sawTo l v k) else sawTo l v k := rfl
theorem op_zero' {W : World} : (zeroValue 40).run Tryz.prog W = .ok (.agg zeroO.c) W := op_zero W
section
variable (B : DB) (s : DocS) (x : OT) (w : World) (hd : DocAt B s w) (hs : DocOk s) (hx : OT.Ok x) (hb : ∀ k, k < 64 → 0 ≤ vat x.o.seen k ∧ vat x.o.seen k ≤ 60)
include hd hs hx hb
set_option maxRecDepth 100000 in
set_option maxHeartbeats 2000000 in
theorem dSeen_any : Calls Tryz.prog 73 #[.pointer (some ⟨B.d, 0, none⟩), opv x.o] w fun e w' => e = .returned (.int .i64 (sawT s.l x.o.seen)) ∧ Below w.heap.size w w' := by
  have HD := Lib.hid hd
  have HK := Lib.hid hs
  have HB := Lib.hid hb
  have hxs := hx.seen
  have hS : Boxes w (w.alloc (Obj.cells x.o.c 40)) [(w.heap.size, Obj.cells x.o.c 40)] := (Boxes.start w).alloc _
  clear hd hs hx hb
  go_enter Tryz.func73, Tryz.ntmps73
  go_wp2_with (first | ((with_reducible refine gate_op (op := .load 33 (.tmp 8)) rfl ?_); refine load_part rfl 33 (.tmp 8) rfl _ 3 rfl _ _ (0, 0) _ _ (hS.at_ 0 rfl) (OpV.pSeen hxs) Tryz.underlying33 rfl (seen_info' _ hxs) ?_) | go_skip)
  generalize (w.alloc (Obj.cells x.o.c 40)) = w1 at *
  have d65 := doc_cell (HD.out.move hS.below) (docC_65 HK.out.v s.t B.po B.pj)
  have HW := Lib.hid hS.below
  clear hS
  go_loopw [5, 10] (fun mv kv wr => wr = w1 ∧ ∃ k : Nat, k ≤ 64 ∧ mv = .int .i64 (sawTo s.l x.o.seen k) ∧ kv = .int .i64 (k : Int)) (fun _ kv _ => 64 - (intOf kv).toNat)
  case atStart => exact ⟨rfl, 0, Nat.zero_le _, rfl, rfl⟩
  case round =>
    rename World => wr
    obtain ⟨rfl, k, hk, rfl, rfl⟩ := hrel
    by_cases hk64 : k < 64
    · have hkb : decide ((k : Int) < 64) = true := by simp; omega
      have hix := run_index_vec (P := Tryz.prog) 33 2 Tryz.underlying33 Tryz.underlying2 (by kernel_rfl) x.o.seen hxs k hk64
      have HS := Lib.hid (sawTo_succ s.l x.o.seen k)
      have hv := HB.out k hk64
      generalize hvn : vat x.o.seen k = n at *
      by_cases hn : 0 < n
      · have hnb : decide (0 < n) = true := by simpa using hn
        have ft := field_time
        obtain ⟨y, hy⟩ : ∃ y, (assoc s.l ((k : Int) + 1, n)).getD zOT = y := ⟨_, rfl⟩
        have HTY := Lib.hid (show timeOf s.l ((k : Int) + 1, n) = y.o.T by rw [← hy, timeOf_is])
        have hlk : lookV false OT.v (.agg zeroO.c) (assoc s.l ((k : Int) + 1, n)) = .agg y.o.c := by rw [look_ods, hy]
        have hid : IdOk ((k : Int) + 1, n) := ⟨⟨by show (_ : Int) ≤ (k : Int) + 1; omega, by show (k : Int) + 1 ≤ (_ : Int); omega⟩, ⟨by show (_ : Int) ≤ n; omega, by show n ≤ (_ : Int); omega⟩⟩
        have hpo := (HD.out.move HW.out).po
        clear hy
        go_wp2_with (first | ((with_reducible refine gate_op (op := .lookup 67 (.tmp 20) (.tmp 24) false) rfl ?_); refine look_arm (kf := idv) (vf := OT.v) (k := ((k : Int) + 1, n)) rfl (.tmp 20) (.tmp 24) false rfl id_key mapops_under HK.out.keys hid rfl rfl hpo (op_zero _) hlk ?_) | go_skip)
        all_goals
          go_roundw
          case rel => exact ⟨by first | rfl | trivial, k + 1, by omega, by rw [HS.out, if_pos hn, HTY.out]; congr 1; split <;> omega, by go_num⟩
          case measure => first | (simp [intOf]; done) | (simp [intOf]; omega)
      · have hnb : decide (0 < n) = false := by simp; omega
        go_wp2_with go_skip
        go_roundw
        case rel => exact ⟨by first | rfl | trivial, k + 1, by omega, by rw [HS.out, if_neg hn], by go_num⟩
        case measure => first | (simp [intOf]; done) | (simp [intOf]; omega)
    · have hkb : decide ((k : Int) < 64) = false := by simp; omega
      obtain rfl : k = 64 := by omega
      go_wp2_with go_skip
      go_ret
      exact ⟨rfl, HW.out⟩
end
end Go.Proofs.YtffcpmohanhihaaGreatDoor
namespace Go.Proofs.YtffcpmohanhihaaGreatDoor
open Go.RowKit
set_option linter.unusedVariables false
set_option linter.unusedSimpArgs false
set_option linter.unusedSectionVars false
theorem grown_of {w w' : World} (h : Below w.heap.size w w') (row : Option Nat) : w.grownBy w' row := ⟨h.os, h.tape, h.output, h.size, fun k hk _ => h.block k hk⟩
theorem below_of_grown {w w' : World} {row : Option Nat} {B : Nat} (h : w.grownBy w' row) (hB : B ≤ w.heap.size) (hr : ∀ k, row = some k → B ≤ k) : Below B w w' := ⟨h.os, h.tape, h.output, h.size, fun k hk => h.block k (by omega) (fun e => by have := hr k e.symm; omega)⟩
section
variable {P : Program} {o : Oper} {a : Act} {w : World} {R : Value → World → Prop}
/-- An append of one thing that lies in a row of its own. -/
theorem gives_append (s x : Operand) (t e : TypeId) (ho : o.op = .call { callee := .builtin .append, args := #[s, x], argTypes := #[t, t] }) (base : Nat) (i : TypeInfo) (z : Value) (size bytes : Nat) (ht : P.underlying t = some (.slice e)) (hi : P.info? e = some i) (hz : i.zero = some z)
    (hsize : i.size = size) (hby : i.bytes = bytes) (hzs : z.cells.size = size) (hsz : 0 < size) (v : Value) (n : Nat) (xs : List Value) (hs : a.eval s = v) (hown : w.ownsRow base e size v n xs)
    (b m c : Nat) (cs : Array Value) (fr : Nat × Nat) (T : TypeId) (hx : a.eval x = .slice (some ⟨b, 0, none⟩) m c) (hl : cs.size = m * size) (hb : w.heap[b]? = some (.cells cs T fr)) (h1 : ∀ u ∈ cs.toList, u.oneCell' = true)
    (h63 : n + m ≤ maxLen) (hbytes : (n + m) * bytes ≤ 140737488355328) (hbase : base ≤ w.heap.size)
    (h : ∀ v' w', w'.ownsRow base e size v' (n + m) (xs ++ cs.toList) → w.grownBy w' v.ownBlock → (v'.ownBlock = v.ownBlock ∨ v'.ownBlock = some w.heap.size) → R v' w') : gives P o a w R := by
  obtain ⟨v', w', hr, h2, h3, h4, h5⟩ := run_append_own_at (P := P) w base t o.type e i z size bytes ht hi hz hsize hby hzs hsz v n xs hown ⟨b, 0, none⟩ m c cs.toList (by rw [Array.length_toList]; exact hl) (fun j u hu => by
    rw [add_at, Nat.zero_add, cell_of_row w b j cs T fr hb, ← Array.getElem?_toList]
    exact hu) h1 h63 hbytes hbase
  unfold gives execOp
  simp only [ho, resolve, invoke, builtin, Sem.run_bind, Sem.run_pure, Result.andThen_ok, List.map_toArray, List.map_cons, List.map_nil, hs, hx, hr]
  exact h v' w' h2 h3 h5
end
end Go.Proofs.YtffcpmohanhihaaGreatDoor
