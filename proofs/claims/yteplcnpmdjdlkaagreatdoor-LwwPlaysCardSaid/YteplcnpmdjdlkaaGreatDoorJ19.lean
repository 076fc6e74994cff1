/-
  A region whose order is open: what each operation gave, each thing staying as memory grows; rows made by a slice's literal. No condition.
  Law 22's op: a word's operation. No condition.
  An append of what lies in a row of its own, in a statement whose order is open. No condition.
  An append, in a statement whose order is open, of any run of cells, also of none at all. No condition.
-/
import Derived.Test.YteplcnpmdjdlkaaGreatDoorJ14
import Derived.Test.YteplcnpmdjdlkaaGreatDoorJ7
import Derived.Test.YteplcnpmdjdlkaaGreatDoorJ18
import Derived.Maps.AppendAt
namespace Go.Proofs.YteplcnpmdjdlkaaGreatDoor
open Go.RowKit
set_option linter.unusedVariables false
set_option linter.unusedSimpArgs false
set_option linter.unusedSectionVars false
/-- What each of the first n operations gave is as R says. -/
def EnvC (w0 : World) (n : Nat) (R : Nat → Value → World → Prop) (θ : Nat → Value) (L : Nat → Bool) (W : World) : Prop := Below w0.heap.size w0 W ∧ ∀ i, i < n → L i = true → R i (θ i) W
def Stab (w0 : World) (R : Nat → Value → World → Prop) : Prop := ∀ i v W W', Below w0.heap.size w0 W → R i v W → Below W.heap.size W W' → R i v W'
theorem EnvC.start {w0 : World} {n : Nat} {R : Nat → Value → World → Prop} : ∃ θ, EnvC w0 n R θ (fun _ => false) { w0 with drawn := w0.drawn + 1 } := ⟨fun _ => undef, (Below.refl _ _).drew, fun i _ h => by cases h⟩
theorem EnvC.put {w0 : World} {n : Nat} {R : Nat → Value → World → Prop} {θ : Nat → Value} {L : Nat → Bool} {W W' : World} (hs : Stab w0 R) (h : EnvC w0 n R θ L W) {i : Nat} {v : Value} (hb : Below W.heap.size W W') (hR : R i v W') : EnvC w0 n R (updV θ i v) (updL L i) W' := by
  refine ⟨h.1.trans (hb.mono h.1.size), fun j hj hl => ?_⟩
  by_cases hji : j = i
  · subst hji; rw [updV_same]; exact hR
  · rw [updV_ne _ _ hji]
    rw [updL_ne _ hji] at hl
    exact hs j _ W W' h.1 (h.2 j hj hl) hb
theorem EnvC.keep {w0 : World} {n : Nat} {R : Nat → Value → World → Prop} {θ : Nat → Value} {L : Nat → Bool} {W : World} (hs : Stab w0 R) (h : EnvC w0 n R θ L W) {i : Nat} {v : Value} (hR : R i v W) : EnvC w0 n R (updV θ i v) (updL L i) W := h.put hs (Below.refl _ _) hR
section
variable {P : Program} {o : Oper} {a : Act} {w : World} {R : Value → World → Prop}
theorem gives_load_cells (ty : TypeId) (x : Operand) (ho : o.op = .load ty x) (b i : Nat) (hx : a.eval x = .pointer (some ⟨b, i, none⟩)) (cs : Array Value) (d : TypeDesc) (hc : ∀ j v, cs[j]? = some v → w.cell? ⟨b, i + j, none⟩ = some v)
    (hu : P.underlying ty = some d) (hd : (match d with | .struct _ | .array _ _ => true | _ => false) = true) (hi : (P.info? ty).map (·.size) = some cs.size) (h : R (.agg cs) w) : gives P o a w R := by
  unfold gives execOp
  simp only [ho, hx, Instr.loadAt, Instr.sureAddr, Sem.run_bind, Sem.run_pure, Result.andThen_ok, run_load_cells w b i ty cs d hc hu hd hi]
  exact h
theorem gives_load_cellw (ty : TypeId) (x : Operand) (ho : o.op = .load ty x) (b i : Nat) (hx : a.eval x = .pointer (some ⟨b, i, none⟩)) (u : Value) (d : TypeDesc) (hc : w.cell? ⟨b, i, none⟩ = some u)
    (hu : P.underlying ty = some d) (hd : (match d with | .struct _ | .array _ _ => false | _ => true) = true) (h : R u w) : gives P o a w R := by
  have hagg : (isAgg ty).run P w = .ok false w := by
    unfold isAgg
    rw [Sem.run_bind, run_underlying hu w]
    cases d <;> simp_all
  have hl : (loadVar ty ⟨b, i, none⟩).run P w = .ok u w := by simp [loadVar, Sem.run_bind, hagg, hc]
  unfold gives execOp
  simp only [ho, hx, Instr.loadAt, Instr.sureAddr, Sem.run_bind, Sem.run_pure, Result.andThen_ok, hl]
  exact h
theorem gives_slice (t : TypeId) (len : Nat) (ps : Array (Nat × Operand)) (ho : o.op = .buildSlice t len ps) (vs : Array (Nat × Value)) (hx : ps.map (fun p => (p.1, a.eval p.2)) = vs) (cs : Array Value) (e : TypeId)
    (hr : (Instr.buildSlice t len vs).run P w = .ok (.slice (some ⟨w.heap.size, 0, none⟩) len len) (w.alloc (.cells cs e)))
    (h : R (.slice (some ⟨w.heap.size, 0, none⟩) len len) (w.alloc (.cells cs e))) : gives P o a w R := by
  have hrun : (execOp a.eval o).run P w = .ok (.value (.slice (some ⟨w.heap.size, 0, none⟩) len len)) (w.alloc (.cells cs e)) := by
    unfold execOp
    have hx' : (ps.map fun (i, x) => (i, a.eval x)) = vs := hx
    simp only [ho, Sem.run_bind, hx', hr, Result.andThen_ok, Sem.run_pure]
  unfold gives
  rw [hrun]
  exact h
theorem gives_build (t : TypeId) (ps : Array (Nat × Operand)) (ho : o.op = .build t ps) (vs : Array (Nat × Value)) (hx : ps.map (fun p => (p.1, a.eval p.2)) = vs) (v : Value)
    (hr : ∀ W, (Instr.build t vs).run P W = .ok v W) (h : R v w) : gives P o a w R := by
  have hrun : (execOp a.eval o).run P w = .ok (.value v) w := by
    unfold execOp
    have hx' : (ps.map fun (i, x) => (i, a.eval x)) = vs := hx
    simp only [ho, Sem.run_bind, hx', hr, Result.andThen_ok, Sem.run_pure]
  unfold gives
  rw [hrun]
  exact h
end
section
variable {P : Program} {ops : Array Oper} {rest : List Oper} {o : Oper} {a : Act} {w : World} {Q : Exit → Act → World → Prop}
/-- A row made: the world behind it under a name of its own. -/
theorem slice_arm (hwt : Region.wanted o (yielded ops a.tmps) = true) (t : TypeId) (len : Nat) (ps : Array (Nat × Operand)) (ho : o.op = .buildSlice t len ps) (vs : Array (Nat × Value)) (hx : ps.map (fun p => (p.1, a.eval p.2)) = vs) (cs : Array Value) (e : TypeId)
    (hr : (Instr.buildSlice t len vs).run P w = .ok (.slice (some ⟨w.heap.size, 0, none⟩) len len) (w.alloc (.cells cs e)))
    (h : ∀ w', Below w.heap.size w w' → w'.heap[w.heap.size]? = some (.cells cs e (0, 0)) → wpList P ops Q rest (a.put o.dst (.slice (some ⟨w.heap.size, 0, none⟩) len len)) w') : wpList P ops Q (o :: rest) a w :=
  BigFrame.wpList_want hwt fun K hK => by
    have hrun : (execOp a.eval o).run P w = .ok (.value (.slice (some ⟨w.heap.size, 0, none⟩) len len)) (w.alloc (.cells cs e)) := by
      unfold execOp
      have hx' : (ps.map fun (i, x) => (i, a.eval x)) = vs := hx
      simp only [ho, Sem.run_bind, hx', hr, Result.andThen_ok, Sem.run_pure]
    unfold Oper.wp
    rw [hrun, Oper.upon_value]
    exact hK _ _ (h _ (Below.alloc (Below.refl _ _) (Nat.le_refl _) _) (heap_alloc_new _ _))
/-- A block made: .. and how many there are then. -/
theorem alloc_armz (hwt : Region.wanted o (yielded ops a.tmps) = true) (ty : TypeId) (ho : o.op = .alloc ty) {z : Obj} (hr : (Instr.alloc ty true (.tuple #[])).run P w = .ok (.pointer (some ⟨w.heap.size, 0, none⟩)) (w.alloc z))
    (h : ∀ w', Below w.heap.size w w' → w'.heap[w.heap.size]? = some z → w'.heap.size = w.heap.size + 1 → wpList P ops Q rest (a.put o.dst (.pointer (some ⟨w.heap.size, 0, none⟩))) w') : wpList P ops Q (o :: rest) a w :=
  BigFrame.wpList_want hwt fun K hK => by
    have hrun : (execOp a.eval o).run P w = .ok (.value (.pointer (some ⟨w.heap.size, 0, none⟩))) (w.alloc z) := by
      unfold execOp
      simp only [ho, Sem.run_bind, hr, Result.andThen_ok, Sem.run_pure]
    unfold Oper.wp
    rw [hrun, Oper.upon_value]
    exact hK _ _ (h _ (Below.alloc (Below.refl _ _) (Nat.le_refl _) z) (heap_alloc_new _ _) (Array.size_push ..))
theorem makes_arm (hwt : Region.wanted o (yielded ops a.tmps) = true) (t : TypeId) (l c : Operand) (ho : o.op = .makeSlice t l c) (lv cv : Value) (hl : a.eval l = lv) (hc : a.eval c = cv) (n : Nat) (cs : Array Value) (e : TypeId)
    (hr : (Instr.makeSlice t lv cv).run P w = .ok (.slice (some ⟨w.heap.size, 0, none⟩) n n) (w.alloc (.cells cs e)))
    (h : ∀ w', Below w.heap.size w w' → w'.heap[w.heap.size]? = some (.cells cs e (0, 0)) → wpList P ops Q rest (a.put o.dst (.slice (some ⟨w.heap.size, 0, none⟩) n n)) w') : wpList P ops Q (o :: rest) a w :=
  BigFrame.wpList_want hwt fun K hK => by
    have hrun : (execOp a.eval o).run P w = .ok (.value (.slice (some ⟨w.heap.size, 0, none⟩) n n)) (w.alloc (.cells cs e)) := by
      unfold execOp
      simp only [ho, hl, hc, Sem.run_bind, hr, Result.andThen_ok, Sem.run_pure]
    unfold Oper.wp
    rw [hrun, Oper.upon_value]
    exact hK _ _ (h _ (Below.alloc (Below.refl _ _) (Nat.le_refl _) _) (heap_alloc_new _ _))
theorem conv_arm (hwt : Region.wanted o (yielded ops a.tmps) = true) (src dst : TypeId) (x : Operand) (ho : o.op = .convert src dst x) (xv : Value) (hx : a.eval x = xv) (v : Value)
    (hr : (convert src dst xv).run P w = .ok v w) (h : wpList P ops Q rest (a.put o.dst v) w) : wpList P ops Q (o :: rest) a w :=
  BigFrame.wpList_want hwt fun K hK => by
    have hrun : (execOp a.eval o).run P w = .ok (.value v) w := by
      unfold execOp
      simp only [ho, hx, Sem.run_bind, hr, Result.andThen_ok, Sem.run_pure]
    unfold Oper.wp
    rw [hrun, Oper.upon_value]
    exact hK _ _ h
theorem build_arm (hwt : Region.wanted o (yielded ops a.tmps) = true) (t : TypeId) (ps : Array (Nat × Operand)) (ho : o.op = .build t ps) (vs : Array (Nat × Value)) (hx : ps.map (fun p => (p.1, a.eval p.2)) = vs) (v : Value)
    (hr : (Instr.build t vs).run P w = .ok v w) (h : wpList P ops Q rest (a.put o.dst v) w) : wpList P ops Q (o :: rest) a w :=
  BigFrame.wpList_want hwt fun K hK => by
    have hrun : (execOp a.eval o).run P w = .ok (.value v) w := by
      unfold execOp
      have hx' : (ps.map fun (i, x) => (i, a.eval x)) = vs := hx
      simp only [ho, Sem.run_bind, hx', hr, Result.andThen_ok, Sem.run_pure]
    unfold Oper.wp
    rw [hrun, Oper.upon_value]
    exact hK _ _ h
end
end Go.Proofs.YteplcnpmdjdlkaaGreatDoor
namespace Go.Proofs.YteplcnpmdjdlkaaGreatDoor
open Go.RowKit
set_option linter.unusedVariables false
set_option linter.unusedSimpArgs false
/-- A word: a replica, a time, a key, set or not, a number. -/
structure WordV where
  R : Int
  T : Int
  key : ByteArray
  off : Bool
  n : Int
def WordV.c (x : WordV) : Array Value := #[.int .i64 x.R, .int .i64 x.T, .string x.key, .bool x.off, .int .i64 x.n]
/-- Its operation. -/
def WordV.op (x : WordV) : OT := if x.off then ⟨opOf x.R 1 x.T Z0 2 0 0 x.key 0 0 0 (VT.leaf 0 0 ⟨#[]⟩), VT.leaf 0 0 ⟨#[]⟩⟩ else ⟨opOf x.R 1 x.T Z0 1 0 0 x.key 0 0 0 (VT.leaf 2 x.n ⟨#[]⟩), VT.leaf 2 x.n ⟨#[]⟩⟩
structure WordV.Ok (x : WordV) : Prop where
  r : -9223372036854775808 ≤ x.R ∧ x.R ≤ 9223372036854775807
  t : -9223372036854775808 ≤ x.T ∧ x.T ≤ 9223372036854775807
  n : -9223372036854775808 ≤ x.n ∧ x.n ≤ 9223372036854775807
  key : KSz x.key
theorem WordV.op_ok {x : WordV} (h : x.Ok) : OT.Ok x.op := by
  unfold WordV.op
  split
  · exact ⟨rfl, rfl, h.key, h.r, ⟨by show (_ : Int) ≤ 1; decide, by show (1 : Int) ≤ _; decide⟩, h.t, fun B W => VT.leaf_in B W 0 0 _ (by decide) (by decide) (by decide) (by decide) (by decide), rfl, rfl⟩
  · exact ⟨rfl, rfl, h.key, h.r, ⟨by show (_ : Int) ≤ 1; decide, by show (1 : Int) ≤ _; decide⟩, h.t, fun B W => VT.leaf_in B W 2 x.n _ h.n.1 h.n.2 (by decide) (by decide) (by decide), rfl, rfl⟩
theorem word_build (R T : Int) (k : ByteArray) (W : World) : (Instr.build 36 #[(0, .agg #[.int .i64 R, .int .i64 1]), (1, .int .i64 T), (3, .int .i64 1), (5, .string k)]).run Tryz.prog W = .ok (.agg (opOf R 1 T Z0 1 0 0 k 0 0 0 .no).c) W := by kernel_rfl
theorem word_s1 (R T : Int) (k : ByteArray) : (opOf R 1 T Z0 1 0 0 k 0 0 0 .no).c.setIfInBounds 74 (.int .i64 2) = (opOf R 1 T Z0 1 0 0 k 0 0 0 (VT.leaf 2 0 ⟨#[]⟩)).c := by kernel_rfl
theorem word_s2 (R T n : Int) (k : ByteArray) : (opOf R 1 T Z0 1 0 0 k 0 0 0 (VT.leaf 2 0 ⟨#[]⟩)).c.setIfInBounds 75 (.int .i64 n) = (opOf R 1 T Z0 1 0 0 k 0 0 0 (VT.leaf 2 n ⟨#[]⟩)).c := by kernel_rfl
theorem word_s3 (R T n : Int) (k : ByteArray) : (opOf R 1 T Z0 1 0 0 k 0 0 0 (VT.leaf 2 n ⟨#[]⟩)).c.setIfInBounds 67 (.int .i64 2) = (opOf R 1 T Z0 2 0 0 k 0 0 0 (VT.leaf 2 n ⟨#[]⟩)).c := by kernel_rfl
theorem word_s4 (R T n : Int) (k : ByteArray) : (opOf R 1 T Z0 2 0 0 k 0 0 0 (VT.leaf 2 n ⟨#[]⟩)).c.setIfInBounds 74 (.int .i64 0) = (opOf R 1 T Z0 2 0 0 k 0 0 0 (VT.leaf 0 n ⟨#[]⟩)).c := by kernel_rfl
theorem word_s5 (R T n : Int) (k : ByteArray) : (opOf R 1 T Z0 2 0 0 k 0 0 0 (VT.leaf 0 n ⟨#[]⟩)).c.setIfInBounds 75 (.int .i64 0) = (opOf R 1 T Z0 2 0 0 k 0 0 0 (VT.leaf 0 0 ⟨#[]⟩)).c := by kernel_rfl
set_option maxRecDepth 100000 in
set_option maxHeartbeats 2000000 in
theorem wOp_on (x : WordV) (w : World) (h : x.off = false) : Calls Tryz.prog 10 #[.agg x.c] w fun e w' => e = .returned (opv (opOf x.R 1 x.T Z0 1 0 0 x.key 0 0 0 (VT.leaf 2 x.n ⟨#[]⟩))) ∧ Below w.heap.size w w' := by
  have hW0 : (w.alloc (Obj.cells x.c 39)).heap.size = w.heap.size + 1 := Array.size_push ..
  have hS : Boxes w (w.alloc (Obj.cells x.c 39)) [(w.heap.size, Obj.cells x.c 39)] := (Boxes.start w).alloc (Obj.cells x.c 39)
  have hb0 := Lib.hid (word_build x.R x.T x.key)
  go_enter Tryz.func10, Tryz.ntmps10
  go_wp2_with (first | ((with_reducible refine gate_op (op := .build 36 #[(0, .tmp 6), (1, .tmp 8), (3, .const (.int .i64 1)), (5, .tmp 10)]) rfl ?_); refine build_arm rfl 36 #[(0, .tmp 6), (1, .tmp 8), (3, .const (.int .i64 1)), (5, .tmp 10)] rfl #[(0, .agg #[.int .i64 x.R, .int .i64 1]), (1, .int .i64 x.T), (3, .int .i64 1), (5, .string x.key)] (by simp only [List.map_toArray, List.map_cons, List.map_nil]; rfl) _ (hb0.out _) ?_) | go_skip | ((with_reducible refine gate_op (op := .alloc 36) rfl ?_); generalize (w.alloc (Obj.cells x.c 39)) = W0 at *; refine alloc_arm rfl 36 rfl (op_alloc _) ?_; intro wn hbn hgn; have hS1 := hS.new hbn hgn; rw [hW0] at hS1; (try simp only [List.nil_append, List.cons_append, List.set_cons_zero, List.set_cons_succ] at hS1); clear hS hbn hgn; have hS := hS1; clear hS1) | ((with_reducible refine gate_op (op := .alloc 36) rfl ?_); refine alloc_arm rfl 36 rfl (op_alloc _) ?_; intro wn hbn hgn; have hS1 := hS.new hbn hgn; (try simp only [List.nil_append, List.cons_append, List.set_cons_zero, List.set_cons_succ] at hS1); clear hS hbn hgn; have hS := hS1; clear hS1) | ((with_reducible refine gate_op (op := .load 3 (.tmp 4)) rfl ?_); refine load_elem rfl 3 (.tmp 4) rfl _ _ rfl 39 _ (0, 0) (.int .i64 x.R) _ (hS.at_ 0 rfl) rfl Tryz.underlying3 rfl ?_) | ((with_reducible refine gate_op (op := .load 2 (.tmp 7)) rfl ?_); refine load_elem rfl 2 (.tmp 7) rfl _ _ rfl 39 _ (0, 0) (.int .i64 x.T) _ (hS.at_ 0 rfl) rfl Tryz.underlying2 rfl ?_) | ((with_reducible refine gate_op (op := .load 9 (.tmp 9)) rfl ?_); refine load_elem rfl 9 (.tmp 9) rfl _ _ rfl 39 _ (0, 0) (.string x.key) _ (hS.at_ 0 rfl) rfl Tryz.underlying9 rfl ?_) | ((with_reducible refine gate_op (op := .load 2 (.tmp 14)) rfl ?_); refine load_elem rfl 2 (.tmp 14) rfl _ _ rfl 39 _ (0, 0) (.int .i64 x.n) _ (hS.at_ 0 rfl) rfl Tryz.underlying2 rfl ?_) | ((with_reducible refine gate_op (op := .load 4 (.tmp 18)) rfl ?_); refine load_elem rfl 4 (.tmp 18) rfl _ _ rfl 39 _ (0, 0) (.bool false) _ (hS.at_ 0 rfl) (congrArg (fun q => some (Value.bool q)) h) Tryz.underlying4 rfl ?_) | ((with_reducible refine gate_op (op := .store 36 (.tmp 3) (.tmp 11)) rfl ?_); refine wpList_store_row rfl 36 (.tmp 3) (.tmp 11) rfl _ (opOf x.R 1 x.T Z0 1 0 0 x.key 0 0 0 .no).c rfl rfl 36 _ (hS.at_ 2 rfl) (op_info _ rfl) ((OpV.size (o := zeroO) rfl).trans (OpV.size (o := opOf x.R 1 x.T Z0 1 0 0 x.key 0 0 0 .no) rfl).symm) (op_one rfl rfl) ?_; intro wn hbn hgn hon hsn; have hS1 := hS.put 2 rfl hon hbn hgn; (try simp only [List.nil_append, List.cons_append, List.set_cons_zero, List.set_cons_succ] at hS1); clear hS hbn hgn hon hsn; have hS := hS1; clear hS1) | ((with_reducible refine gate_op (op := .store 30 (.tmp 13) (.const (.int .i64 2))) rfl ?_); refine store_elem rfl 30 (.tmp 13) (.const (.int .i64 2)) rfl _ 74 (.int .i64 2) rfl rfl rfl 36 _ _ (hS.at_ 2 rfl) (OpV.g74 rfl) (by kernel_rfl) ?_; rw [word_s1]; intro wn hgn hon hbn hsn; have hS1 := hS.put 2 rfl hon hbn hgn; (try simp only [List.nil_append, List.cons_append, List.set_cons_zero, List.set_cons_succ] at hS1); clear hS hgn hon hbn hsn; have hS := hS1; clear hS1) | ((with_reducible refine gate_op (op := .store 2 (.tmp 17) (.tmp 15)) rfl ?_); refine store_elem rfl 2 (.tmp 17) (.tmp 15) rfl _ 75 (.int .i64 x.n) rfl rfl rfl 36 _ _ (hS.at_ 2 rfl) (OpV.g75 rfl) (by kernel_rfl) ?_; rw [word_s2]; intro wn hgn hon hbn hsn; have hS1 := hS.put 2 rfl hon hbn hgn; (try simp only [List.nil_append, List.cons_append, List.set_cons_zero, List.set_cons_succ] at hS1); clear hS hgn hon hbn hsn; have hS := hS1; clear hS1) | ((with_reducible refine gate_op (op := .store 3 (.tmp 20) (.const (.int .i64 2))) rfl ?_); refine store_elem rfl 3 (.tmp 20) (.const (.int .i64 2)) rfl _ 67 (.int .i64 2) rfl rfl rfl 36 _ _ (hS.at_ 2 rfl) (OpV.g67 rfl) (by kernel_rfl) ?_; rw [word_s3]; intro wn hgn hon hbn hsn; have hS1 := hS.put 2 rfl hon hbn hgn; (try simp only [List.nil_append, List.cons_append, List.set_cons_zero, List.set_cons_succ] at hS1); clear hS hgn hon hbn hsn; have hS := hS1; clear hS1) | ((with_reducible refine gate_op (op := .store 30 (.tmp 22) (.const (.int .i64 0))) rfl ?_); refine store_elem rfl 30 (.tmp 22) (.const (.int .i64 0)) rfl _ 74 (.int .i64 0) rfl rfl rfl 36 _ _ (hS.at_ 2 rfl) (OpV.g74 rfl) (by kernel_rfl) ?_; rw [word_s4]; intro wn hgn hon hbn hsn; have hS1 := hS.put 2 rfl hon hbn hgn; (try simp only [List.nil_append, List.cons_append, List.set_cons_zero, List.set_cons_succ] at hS1); clear hS hgn hon hbn hsn; have hS := hS1; clear hS1) | ((with_reducible refine gate_op (op := .store 2 (.tmp 24) (.const (.int .i64 0))) rfl ?_); refine store_elem rfl 2 (.tmp 24) (.const (.int .i64 0)) rfl _ 75 (.int .i64 0) rfl rfl rfl 36 _ _ (hS.at_ 2 rfl) (OpV.g75 rfl) (by kernel_rfl) ?_; rw [word_s5]; intro wn hgn hon hbn hsn; have hS1 := hS.put 2 rfl hon hbn hgn; (try simp only [List.nil_append, List.cons_append, List.set_cons_zero, List.set_cons_succ] at hS1); clear hS hgn hon hbn hsn; have hS := hS1; clear hS1) | ((with_reducible refine gate_op (op := .load 36 (.tmp 3)) rfl ?_); refine wpList_load_row' rfl 36 (.tmp 3) rfl _ rfl 36 _ (0, 0) _ (hS.at_ 2 rfl) Tryz.underlying36 rfl (op_info _ rfl) ?_) | ((with_reducible refine gate_op (op := .store 36 (.tmp 2) (.tmp 25)) rfl ?_); refine wpList_store_row rfl 36 (.tmp 2) (.tmp 25) rfl _ (OpV.c (opOf x.R 1 x.T Z0 1 0 0 x.key 0 0 0 (VT.leaf 2 x.n ⟨#[]⟩))) rfl rfl 36 _ (hS.at_ 1 rfl) (op_info _ rfl) ((OpV.size (o := zeroO) rfl).trans (OpV.size (o := (opOf x.R 1 x.T Z0 1 0 0 x.key 0 0 0 (VT.leaf 2 x.n ⟨#[]⟩))) rfl).symm) (op_one rfl rfl) ?_; intro wn hbn hgn hon hsn; have hS1 := hS.put 1 rfl hon hbn hgn; (try simp only [List.nil_append, List.cons_append, List.set_cons_zero, List.set_cons_succ] at hS1); clear hS hbn hgn hon hsn; have hS := hS1; clear hS1))
  exact bodyPost_ret (v := .agg (opOf x.R 1 x.T Z0 1 0 0 x.key 0 0 0 (VT.leaf 2 x.n ⟨#[]⟩)).c) (results_cell_row rfl _ _ _ _ _ _ _ rfl (hS.at_ 1 rfl) Tryz.underlying36 rfl (op_info _ rfl)) rfl ⟨rfl, hS.below⟩
set_option maxRecDepth 100000 in
set_option maxHeartbeats 2000000 in
theorem wOp_off (x : WordV) (w : World) (h : x.off = true) : Calls Tryz.prog 10 #[.agg x.c] w fun e w' => e = .returned (opv (opOf x.R 1 x.T Z0 2 0 0 x.key 0 0 0 (VT.leaf 0 0 ⟨#[]⟩))) ∧ Below w.heap.size w w' := by
  have hW0 : (w.alloc (Obj.cells x.c 39)).heap.size = w.heap.size + 1 := Array.size_push ..
  have hS : Boxes w (w.alloc (Obj.cells x.c 39)) [(w.heap.size, Obj.cells x.c 39)] := (Boxes.start w).alloc (Obj.cells x.c 39)
  have hb0 := Lib.hid (word_build x.R x.T x.key)
  go_enter Tryz.func10, Tryz.ntmps10
  go_wp2_with (first | ((with_reducible refine gate_op (op := .build 36 #[(0, .tmp 6), (1, .tmp 8), (3, .const (.int .i64 1)), (5, .tmp 10)]) rfl ?_); refine build_arm rfl 36 #[(0, .tmp 6), (1, .tmp 8), (3, .const (.int .i64 1)), (5, .tmp 10)] rfl #[(0, .agg #[.int .i64 x.R, .int .i64 1]), (1, .int .i64 x.T), (3, .int .i64 1), (5, .string x.key)] (by simp only [List.map_toArray, List.map_cons, List.map_nil]; rfl) _ (hb0.out _) ?_) | go_skip | ((with_reducible refine gate_op (op := .alloc 36) rfl ?_); generalize (w.alloc (Obj.cells x.c 39)) = W0 at *; refine alloc_arm rfl 36 rfl (op_alloc _) ?_; intro wn hbn hgn; have hS1 := hS.new hbn hgn; rw [hW0] at hS1; (try simp only [List.nil_append, List.cons_append, List.set_cons_zero, List.set_cons_succ] at hS1); clear hS hbn hgn; have hS := hS1; clear hS1) | ((with_reducible refine gate_op (op := .alloc 36) rfl ?_); refine alloc_arm rfl 36 rfl (op_alloc _) ?_; intro wn hbn hgn; have hS1 := hS.new hbn hgn; (try simp only [List.nil_append, List.cons_append, List.set_cons_zero, List.set_cons_succ] at hS1); clear hS hbn hgn; have hS := hS1; clear hS1) | ((with_reducible refine gate_op (op := .load 3 (.tmp 4)) rfl ?_); refine load_elem rfl 3 (.tmp 4) rfl _ _ rfl 39 _ (0, 0) (.int .i64 x.R) _ (hS.at_ 0 rfl) rfl Tryz.underlying3 rfl ?_) | ((with_reducible refine gate_op (op := .load 2 (.tmp 7)) rfl ?_); refine load_elem rfl 2 (.tmp 7) rfl _ _ rfl 39 _ (0, 0) (.int .i64 x.T) _ (hS.at_ 0 rfl) rfl Tryz.underlying2 rfl ?_) | ((with_reducible refine gate_op (op := .load 9 (.tmp 9)) rfl ?_); refine load_elem rfl 9 (.tmp 9) rfl _ _ rfl 39 _ (0, 0) (.string x.key) _ (hS.at_ 0 rfl) rfl Tryz.underlying9 rfl ?_) | ((with_reducible refine gate_op (op := .load 2 (.tmp 14)) rfl ?_); refine load_elem rfl 2 (.tmp 14) rfl _ _ rfl 39 _ (0, 0) (.int .i64 x.n) _ (hS.at_ 0 rfl) rfl Tryz.underlying2 rfl ?_) | ((with_reducible refine gate_op (op := .load 4 (.tmp 18)) rfl ?_); refine load_elem rfl 4 (.tmp 18) rfl _ _ rfl 39 _ (0, 0) (.bool true) _ (hS.at_ 0 rfl) (congrArg (fun q => some (Value.bool q)) h) Tryz.underlying4 rfl ?_) | ((with_reducible refine gate_op (op := .store 36 (.tmp 3) (.tmp 11)) rfl ?_); refine wpList_store_row rfl 36 (.tmp 3) (.tmp 11) rfl _ (opOf x.R 1 x.T Z0 1 0 0 x.key 0 0 0 .no).c rfl rfl 36 _ (hS.at_ 2 rfl) (op_info _ rfl) ((OpV.size (o := zeroO) rfl).trans (OpV.size (o := opOf x.R 1 x.T Z0 1 0 0 x.key 0 0 0 .no) rfl).symm) (op_one rfl rfl) ?_; intro wn hbn hgn hon hsn; have hS1 := hS.put 2 rfl hon hbn hgn; (try simp only [List.nil_append, List.cons_append, List.set_cons_zero, List.set_cons_succ] at hS1); clear hS hbn hgn hon hsn; have hS := hS1; clear hS1) | ((with_reducible refine gate_op (op := .store 30 (.tmp 13) (.const (.int .i64 2))) rfl ?_); refine store_elem rfl 30 (.tmp 13) (.const (.int .i64 2)) rfl _ 74 (.int .i64 2) rfl rfl rfl 36 _ _ (hS.at_ 2 rfl) (OpV.g74 rfl) (by kernel_rfl) ?_; rw [word_s1]; intro wn hgn hon hbn hsn; have hS1 := hS.put 2 rfl hon hbn hgn; (try simp only [List.nil_append, List.cons_append, List.set_cons_zero, List.set_cons_succ] at hS1); clear hS hgn hon hbn hsn; have hS := hS1; clear hS1) | ((with_reducible refine gate_op (op := .store 2 (.tmp 17) (.tmp 15)) rfl ?_); refine store_elem rfl 2 (.tmp 17) (.tmp 15) rfl _ 75 (.int .i64 x.n) rfl rfl rfl 36 _ _ (hS.at_ 2 rfl) (OpV.g75 rfl) (by kernel_rfl) ?_; rw [word_s2]; intro wn hgn hon hbn hsn; have hS1 := hS.put 2 rfl hon hbn hgn; (try simp only [List.nil_append, List.cons_append, List.set_cons_zero, List.set_cons_succ] at hS1); clear hS hgn hon hbn hsn; have hS := hS1; clear hS1) | ((with_reducible refine gate_op (op := .store 3 (.tmp 20) (.const (.int .i64 2))) rfl ?_); refine store_elem rfl 3 (.tmp 20) (.const (.int .i64 2)) rfl _ 67 (.int .i64 2) rfl rfl rfl 36 _ _ (hS.at_ 2 rfl) (OpV.g67 rfl) (by kernel_rfl) ?_; rw [word_s3]; intro wn hgn hon hbn hsn; have hS1 := hS.put 2 rfl hon hbn hgn; (try simp only [List.nil_append, List.cons_append, List.set_cons_zero, List.set_cons_succ] at hS1); clear hS hgn hon hbn hsn; have hS := hS1; clear hS1) | ((with_reducible refine gate_op (op := .store 30 (.tmp 22) (.const (.int .i64 0))) rfl ?_); refine store_elem rfl 30 (.tmp 22) (.const (.int .i64 0)) rfl _ 74 (.int .i64 0) rfl rfl rfl 36 _ _ (hS.at_ 2 rfl) (OpV.g74 rfl) (by kernel_rfl) ?_; rw [word_s4]; intro wn hgn hon hbn hsn; have hS1 := hS.put 2 rfl hon hbn hgn; (try simp only [List.nil_append, List.cons_append, List.set_cons_zero, List.set_cons_succ] at hS1); clear hS hgn hon hbn hsn; have hS := hS1; clear hS1) | ((with_reducible refine gate_op (op := .store 2 (.tmp 24) (.const (.int .i64 0))) rfl ?_); refine store_elem rfl 2 (.tmp 24) (.const (.int .i64 0)) rfl _ 75 (.int .i64 0) rfl rfl rfl 36 _ _ (hS.at_ 2 rfl) (OpV.g75 rfl) (by kernel_rfl) ?_; rw [word_s5]; intro wn hgn hon hbn hsn; have hS1 := hS.put 2 rfl hon hbn hgn; (try simp only [List.nil_append, List.cons_append, List.set_cons_zero, List.set_cons_succ] at hS1); clear hS hgn hon hbn hsn; have hS := hS1; clear hS1) | ((with_reducible refine gate_op (op := .load 36 (.tmp 3)) rfl ?_); refine wpList_load_row' rfl 36 (.tmp 3) rfl _ rfl 36 _ (0, 0) _ (hS.at_ 2 rfl) Tryz.underlying36 rfl (op_info _ rfl) ?_) | ((with_reducible refine gate_op (op := .store 36 (.tmp 2) (.tmp 25)) rfl ?_); refine wpList_store_row rfl 36 (.tmp 2) (.tmp 25) rfl _ (OpV.c (opOf x.R 1 x.T Z0 2 0 0 x.key 0 0 0 (VT.leaf 0 0 ⟨#[]⟩))) rfl rfl 36 _ (hS.at_ 1 rfl) (op_info _ rfl) ((OpV.size (o := zeroO) rfl).trans (OpV.size (o := (opOf x.R 1 x.T Z0 2 0 0 x.key 0 0 0 (VT.leaf 0 0 ⟨#[]⟩))) rfl).symm) (op_one rfl rfl) ?_; intro wn hbn hgn hon hsn; have hS1 := hS.put 1 rfl hon hbn hgn; (try simp only [List.nil_append, List.cons_append, List.set_cons_zero, List.set_cons_succ] at hS1); clear hS hbn hgn hon hsn; have hS := hS1; clear hS1))
  exact bodyPost_ret (v := .agg (opOf x.R 1 x.T Z0 2 0 0 x.key 0 0 0 (VT.leaf 0 0 ⟨#[]⟩)).c) (results_cell_row rfl _ _ _ _ _ _ _ rfl (hS.at_ 1 rfl) Tryz.underlying36 rfl (op_info _ rfl)) rfl ⟨rfl, hS.below⟩
theorem wOp_any (x : WordV) (w : World) : Calls Tryz.prog 10 #[.agg x.c] w fun e w' => e = .returned (opv x.op.o) ∧ Below w.heap.size w w' := by
  unfold WordV.op
  cases h : x.off
  · exact wOp_on x w h
  · exact wOp_off x w h
end Go.Proofs.YteplcnpmdjdlkaaGreatDoor
namespace Go.Proofs.YteplcnpmdjdlkaaGreatDoor
open Go.RowKit
set_option linter.unusedVariables false
set_option linter.unusedSimpArgs false
set_option linter.unusedSectionVars false
theorem grown_of {w w' : World} (h : Below w.heap.size w w') (row : Option Nat) : w.grownBy w' row := ⟨h.os, h.tape, h.output, h.size, fun k hk _ => h.block k hk⟩
theorem below_of_grown {w w' : World} {row : Option Nat} {B : Nat} (h : w.grownBy w' row) (hB : B ≤ w.heap.size) (hr : ∀ k, row = some k → B ≤ k) : Below B w w' := ⟨h.os, h.tape, h.output, h.size, fun k hk => h.block k (by omega) (fun e => by have := hr k e.symm; omega)⟩
section
variable {P : Program} {o : Oper} {a : Act} {w : World} {R : Value → World → Prop}
/-- An append of one thing that lies in a row of its own. -/
theorem gives_append (s x : Operand) (t e : TypeId) (ho : o.op = .call { callee := .builtin .append, args := #[s, x], argTypes := #[t, t] }) (base : Nat) (i : TypeInfo) (z : Value) (size bytes : Nat) (ht : P.underlying t = some (.slice e)) (hi : P.info? e = some i) (hz : i.zero = some z)
    (hsize : i.size = size) (hby : i.bytes = bytes) (hzs : z.cells.size = size) (hsz : 0 < size) (v : Value) (n : Nat) (xs : List Value) (hs : a.eval s = v) (hown : w.ownsRow base e size v n xs)
    (b m c : Nat) (cs : Array Value) (fr : Nat × Nat) (T : TypeId) (hx : a.eval x = .slice (some ⟨b, 0, none⟩) m c) (hl : cs.size = m * size) (hb : w.heap[b]? = some (.cells cs T fr)) (h1 : ∀ u ∈ cs.toList, u.oneCell' = true)
    (h63 : n + m ≤ maxLen) (hbytes : (n + m) * bytes ≤ 140737488355328) (hbase : base ≤ w.heap.size)
    (h : ∀ v' w', w'.ownsRow base e size v' (n + m) (xs ++ cs.toList) → w.grownBy w' v.ownBlock → (v'.ownBlock = v.ownBlock ∨ v'.ownBlock = some w.heap.size) → R v' w') : gives P o a w R := by
  obtain ⟨v', w', hr, h2, h3, h4, h5⟩ := run_append_own_at (P := P) w base t o.type e i z size bytes ht hi hz hsize hby hzs hsz v n xs hown ⟨b, 0, none⟩ m c cs.toList (by rw [Array.length_toList]; exact hl) (fun j u hu => by
    rw [add_at, Nat.zero_add, cell_of_row w b j cs T fr hb, ← Array.getElem?_toList]
    exact hu) h1 h63 hbytes hbase
  unfold gives execOp
  simp only [ho, resolve, invoke, builtin, Sem.run_bind, Sem.run_pure, Result.andThen_ok, List.map_toArray, List.map_cons, List.map_nil, hs, hx, hr]
  exact h v' w' h2 h3 h5
end
end Go.Proofs.YteplcnpmdjdlkaaGreatDoor
namespace Go.Proofs.YteplcnpmdjdlkaaGreatDoor
open Go.RowKit
set_option linter.unusedVariables false
set_option linter.unusedSimpArgs false
set_option linter.unusedSectionVars false
section
variable {P : Program} {o : Oper} {a : Act} {w : World} {R : Value → World → Prop}
theorem run_append_none (t ty e : TypeId) (i : TypeInfo) (ht : P.underlying t = some (.slice e)) (hi : P.info? e = some i) (base size : Nat) (v : Value) (n : Nat) (xs : List Value) (hown : w.ownsRow base e size v n xs) (c : Nat) :
    (Builtin.append_ #[t, t] ty #[v, .slice none 0 c]).run P w = .ok v w := by
  rcases hown.2 with ⟨rfl, rfl⟩ | ⟨g, cap, cur, rfl, hbg, hg, hnc, hcm, hcs, htake⟩
  · simp [Builtin.append_, run_underlying ht, sizeOf, typeInfo, hi, Builtin.lenOf, Builtin.firstCells]
  · simp [Builtin.append_, run_underlying ht, sizeOf, typeInfo, hi, Builtin.lenOf, Builtin.firstCells, hnc, storeCells]
theorem gives_append_any (s x : Operand) (t e : TypeId) (ho : o.op = .call { callee := .builtin .append, args := #[s, x], argTypes := #[t, t] }) (base : Nat) (i : TypeInfo) (z : Value) (size bytes : Nat) (ht : P.underlying t = some (.slice e)) (hi : P.info? e = some i) (hz : i.zero = some z)
    (hsize : i.size = size) (hby : i.bytes = bytes) (hzs : z.cells.size = size) (hsz : 0 < size) (v : Value) (n : Nat) (xs : List Value) (hs : a.eval s = v) (hown : w.ownsRow base e size v n xs)
    (A : Option Addr) (m c : Nat) (news : List Value) (hx : a.eval x = .slice A m c) (hl : news.length = m * size) (hA : A = none → m = 0) (hnews : ∀ d, A = some d → ∀ j u, news[j]? = some u → w.cell? (d.add j) = some u) (h1 : ∀ u ∈ news, u.oneCell' = true)
    (h63 : n + m ≤ maxLen) (hbytes : (n + m) * bytes ≤ 140737488355328) (hbase : base ≤ w.heap.size)
    (h : ∀ v' w', w'.ownsRow base e size v' (n + m) (xs ++ news) → w.grownBy w' v.ownBlock → (v'.ownBlock = v.ownBlock ∨ v'.ownBlock = some w.heap.size) → R v' w') : gives P o a w R := by
  cases A with
  | none =>
    obtain rfl := hA rfl
    obtain rfl : news = [] := List.eq_nil_of_length_eq_zero (by rw [hl, Nat.zero_mul])
    have hr := run_append_none (P := P) (w := w) t o.type e i ht hi base size v n xs hown c
    unfold gives execOp
    simp only [ho, resolve, invoke, builtin, Sem.run_bind, Sem.run_pure, Result.andThen_ok, List.map_toArray, List.map_cons, List.map_nil, hs, hx, hr]
    exact h v w (by rw [List.append_nil]; exact hown) (grown_of (Below.refl _ _) _) (.inl rfl)
  | some d =>
    obtain ⟨v', w', hr, h2, h3, h4, h5⟩ := run_append_own_at (P := P) w base t o.type e i z size bytes ht hi hz hsize hby hzs hsz v n xs hown d m c news hl (hnews d rfl) h1 h63 hbytes hbase
    unfold gives execOp
    simp only [ho, resolve, invoke, builtin, Sem.run_bind, Sem.run_pure, Result.andThen_ok, List.map_toArray, List.map_cons, List.map_nil, hs, hx, hr]
    exact h v' w' h2 h3 h5
end
end Go.Proofs.YteplcnpmdjdlkaaGreatDoor
