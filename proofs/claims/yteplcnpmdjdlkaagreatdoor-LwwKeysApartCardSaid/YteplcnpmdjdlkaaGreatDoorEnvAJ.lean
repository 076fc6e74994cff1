/-
  A region whose order is open: what each operation gave, each thing staying as memory grows; rows made by a slice's literal. No condition.
-/
import Derived.Test.YteplcnpmdjdlkaaGreatDoorCopyRJ
import Derived.Test.YteplcnpmdjdlkaaGreatDoorJ7
namespace Go.Proofs.YteplcnpmdjdlkaaGreatDoor
open Go.RowKit
set_option linter.unusedVariables false
set_option linter.unusedSimpArgs false
set_option linter.unusedSectionVars false
/-- What each of the first n operations gave is as R says. -/
def EnvC (w0 : World) (n : Nat) (R : Nat → Value → World → Prop) (θ : Nat → Value) (L : Nat → Bool) (W : World) : Prop := Below w0.heap.size w0 W ∧ ∀ i, i < n → L i = true → R i (θ i) W
def Stab (w0 : World) (R : Nat → Value → World → Prop) : Prop := ∀ i v W W', Below w0.heap.size w0 W → R i v W → Below W.heap.size W W' → R i v W'
theorem EnvC.start {w0 : World} {n : Nat} {R : Nat → Value → World → Prop} : ∃ θ, EnvC w0 n R θ (fun _ => false) { w0 with drawn := w0.drawn + 1 } := ⟨fun _ => undef, (Below.refl _ _).drew, fun i _ h => by cases h⟩
theorem EnvC.put {w0 : World} {n : Nat} {R : Nat → Value → World → Prop} {θ : Nat → Value} {L : Nat → Bool} {W W' : World} (hs : Stab w0 R) (h : EnvC w0 n R θ L W) {i : Nat} {v : Value} (hb : Below W.heap.size W W') (hR : R i v W') : EnvC w0 n R (updV θ i v) (updL L i) W' := by
  refine ⟨h.1.trans (hb.mono h.1.size), fun j hj hl => ?_⟩
  by_cases hji : j = i
  · subst hji; rw [updV_same]; exact hR
  · rw [updV_ne _ _ hji]
    rw [updL_ne _ hji] at hl
    exact hs j _ W W' h.1 (h.2 j hj hl) hb
theorem EnvC.keep {w0 : World} {n : Nat} {R : Nat → Value → World → Prop} {θ : Nat → Value} {L : Nat → Bool} {W : World} (hs : Stab w0 R) (h : EnvC w0 n R θ L W) {i : Nat} {v : Value} (hR : R i v W) : EnvC w0 n R (updV θ i v) (updL L i) W := h.put hs (Below.refl _ _) hR
section
variable {P : Program} {o : Oper} {a : Act} {w : World} {R : Value → World → Prop}
theorem gives_load_cells (ty : TypeId) (x : Operand) (ho : o.op = .load ty x) (b i : Nat) (hx : a.eval x = .pointer (some ⟨b, i, none⟩)) (cs : Array Value) (d : TypeDesc) (hc : ∀ j v, cs[j]? = some v → w.cell? ⟨b, i + j, none⟩ = some v)
    (hu : P.underlying ty = some d) (hd : (match d with | .struct _ | .array _ _ => true | _ => false) = true) (hi : (P.info? ty).map (·.size) = some cs.size) (h : R (.agg cs) w) : gives P o a w R := by
  unfold gives execOp
  simp only [ho, hx, Instr.loadAt, Instr.sureAddr, Sem.run_bind, Sem.run_pure, Result.andThen_ok, run_load_cells w b i ty cs d hc hu hd hi]
  exact h
theorem gives_load_cellw (ty : TypeId) (x : Operand) (ho : o.op = .load ty x) (b i : Nat) (hx : a.eval x = .pointer (some ⟨b, i, none⟩)) (u : Value) (d : TypeDesc) (hc : w.cell? ⟨b, i, none⟩ = some u)
    (hu : P.underlying ty = some d) (hd : (match d with | .struct _ | .array _ _ => false | _ => true) = true) (h : R u w) : gives P o a w R := by
  have hagg : (isAgg ty).run P w = .ok false w := by
    unfold isAgg
    rw [Sem.run_bind, run_underlying hu w]
    cases d <;> simp_all
  have hl : (loadVar ty ⟨b, i, none⟩).run P w = .ok u w := by simp [loadVar, Sem.run_bind, hagg, hc]
  unfold gives execOp
  simp only [ho, hx, Instr.loadAt, Instr.sureAddr, Sem.run_bind, Sem.run_pure, Result.andThen_ok, hl]
  exact h
theorem gives_slice (t : TypeId) (len : Nat) (ps : Array (Nat × Operand)) (ho : o.op = .buildSlice t len ps) (vs : Array (Nat × Value)) (hx : ps.map (fun p => (p.1, a.eval p.2)) = vs) (cs : Array Value) (e : TypeId)
    (hr : (Instr.buildSlice t len vs).run P w = .ok (.slice (some ⟨w.heap.size, 0, none⟩) len len) (w.alloc (.cells cs e)))
    (h : R (.slice (some ⟨w.heap.size, 0, none⟩) len len) (w.alloc (.cells cs e))) : gives P o a w R := by
  have hrun : (execOp a.eval o).run P w = .ok (.value (.slice (some ⟨w.heap.size, 0, none⟩) len len)) (w.alloc (.cells cs e)) := by
    unfold execOp
    have hx' : (ps.map fun (i, x) => (i, a.eval x)) = vs := hx
    simp only [ho, Sem.run_bind, hx', hr, Result.andThen_ok, Sem.run_pure]
  unfold gives
  rw [hrun]
  exact h
theorem gives_build (t : TypeId) (ps : Array (Nat × Operand)) (ho : o.op = .build t ps) (vs : Array (Nat × Value)) (hx : ps.map (fun p => (p.1, a.eval p.2)) = vs) (v : Value)
    (hr : ∀ W, (Instr.build t vs).run P W = .ok v W) (h : R v w) : gives P o a w R := by
  have hrun : (execOp a.eval o).run P w = .ok (.value v) w := by
    unfold execOp
    have hx' : (ps.map fun (i, x) => (i, a.eval x)) = vs := hx
    simp only [ho, Sem.run_bind, hx', hr, Result.andThen_ok, Sem.run_pure]
  unfold gives
  rw [hrun]
  exact h
end
section
variable {P : Program} {ops : Array Oper} {rest : List Oper} {o : Oper} {a : Act} {w : World} {Q : Exit → Act → World → Prop}
/-- A row made: the world behind it under a name of its own. -/
theorem slice_arm (hwt : Region.wanted o (yielded ops a.tmps) = true) (t : TypeId) (len : Nat) (ps : Array (Nat × Operand)) (ho : o.op = .buildSlice t len ps) (vs : Array (Nat × Value)) (hx : ps.map (fun p => (p.1, a.eval p.2)) = vs) (cs : Array Value) (e : TypeId)
    (hr : (Instr.buildSlice t len vs).run P w = .ok (.slice (some ⟨w.heap.size, 0, none⟩) len len) (w.alloc (.cells cs e)))
    (h : ∀ w', Below w.heap.size w w' → w'.heap[w.heap.size]? = some (.cells cs e (0, 0)) → wpList P ops Q rest (a.put o.dst (.slice (some ⟨w.heap.size, 0, none⟩) len len)) w') : wpList P ops Q (o :: rest) a w :=
  BigFrame.wpList_want hwt fun K hK => by
    have hrun : (execOp a.eval o).run P w = .ok (.value (.slice (some ⟨w.heap.size, 0, none⟩) len len)) (w.alloc (.cells cs e)) := by
      unfold execOp
      have hx' : (ps.map fun (i, x) => (i, a.eval x)) = vs := hx
      simp only [ho, Sem.run_bind, hx', hr, Result.andThen_ok, Sem.run_pure]
    unfold Oper.wp
    rw [hrun, Oper.upon_value]
    exact hK _ _ (h _ (Below.alloc (Below.refl _ _) (Nat.le_refl _) _) (heap_alloc_new _ _))
/-- A block made: .. and how many there are then. -/
theorem alloc_armz (hwt : Region.wanted o (yielded ops a.tmps) = true) (ty : TypeId) (ho : o.op = .alloc ty) {z : Obj} (hr : (Instr.alloc ty true (.tuple #[])).run P w = .ok (.pointer (some ⟨w.heap.size, 0, none⟩)) (w.alloc z))
    (h : ∀ w', Below w.heap.size w w' → w'.heap[w.heap.size]? = some z → w'.heap.size = w.heap.size + 1 → wpList P ops Q rest (a.put o.dst (.pointer (some ⟨w.heap.size, 0, none⟩))) w') : wpList P ops Q (o :: rest) a w :=
  BigFrame.wpList_want hwt fun K hK => by
    have hrun : (execOp a.eval o).run P w = .ok (.value (.pointer (some ⟨w.heap.size, 0, none⟩))) (w.alloc z) := by
      unfold execOp
      simp only [ho, Sem.run_bind, hr, Result.andThen_ok, Sem.run_pure]
    unfold Oper.wp
    rw [hrun, Oper.upon_value]
    exact hK _ _ (h _ (Below.alloc (Below.refl _ _) (Nat.le_refl _) z) (heap_alloc_new _ _) (Array.size_push ..))
theorem makes_arm (hwt : Region.wanted o (yielded ops a.tmps) = true) (t : TypeId) (l c : Operand) (ho : o.op = .makeSlice t l c) (lv cv : Value) (hl : a.eval l = lv) (hc : a.eval c = cv) (n : Nat) (cs : Array Value) (e : TypeId)
    (hr : (Instr.makeSlice t lv cv).run P w = .ok (.slice (some ⟨w.heap.size, 0, none⟩) n n) (w.alloc (.cells cs e)))
    (h : ∀ w', Below w.heap.size w w' → w'.heap[w.heap.size]? = some (.cells cs e (0, 0)) → wpList P ops Q rest (a.put o.dst (.slice (some ⟨w.heap.size, 0, none⟩) n n)) w') : wpList P ops Q (o :: rest) a w :=
  BigFrame.wpList_want hwt fun K hK => by
    have hrun : (execOp a.eval o).run P w = .ok (.value (.slice (some ⟨w.heap.size, 0, none⟩) n n)) (w.alloc (.cells cs e)) := by
      unfold execOp
      simp only [ho, hl, hc, Sem.run_bind, hr, Result.andThen_ok, Sem.run_pure]
    unfold Oper.wp
    rw [hrun, Oper.upon_value]
    exact hK _ _ (h _ (Below.alloc (Below.refl _ _) (Nat.le_refl _) _) (heap_alloc_new _ _))
theorem conv_arm (hwt : Region.wanted o (yielded ops a.tmps) = true) (src dst : TypeId) (x : Operand) (ho : o.op = .convert src dst x) (xv : Value) (hx : a.eval x = xv) (v : Value)
    (hr : (convert src dst xv).run P w = .ok v w) (h : wpList P ops Q rest (a.put o.dst v) w) : wpList P ops Q (o :: rest) a w :=
  BigFrame.wpList_want hwt fun K hK => by
    have hrun : (execOp a.eval o).run P w = .ok (.value v) w := by
      unfold execOp
      simp only [ho, hx, Sem.run_bind, hr, Result.andThen_ok, Sem.run_pure]
    unfold Oper.wp
    rw [hrun, Oper.upon_value]
    exact hK _ _ h
theorem build_arm (hwt : Region.wanted o (yielded ops a.tmps) = true) (t : TypeId) (ps : Array (Nat × Operand)) (ho : o.op = .build t ps) (vs : Array (Nat × Value)) (hx : ps.map (fun p => (p.1, a.eval p.2)) = vs) (v : Value)
    (hr : (Instr.build t vs).run P w = .ok v w) (h : wpList P ops Q rest (a.put o.dst v) w) : wpList P ops Q (o :: rest) a w :=
  BigFrame.wpList_want hwt fun K hK => by
    have hrun : (execOp a.eval o).run P w = .ok (.value v) w := by
      unfold execOp
      have hx' : (ps.map fun (i, x) => (i, a.eval x)) = vs := hx
      simp only [ho, Sem.run_bind, hx', hr, Result.andThen_ok, Sem.run_pure]
    unfold Oper.wp
    rw [hrun, Oper.upon_value]
    exact hK _ _ h
end
end Go.Proofs.YteplcnpmdjdlkaaGreatDoor
