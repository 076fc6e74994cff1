/-
  What single operations give, for regions whose order is open. No condition.
-/
import Derived.Test.YtlmligchjjgcmaaRow
import Derived.Test.YtlmligchjjgcmaaReg
namespace Go.Proofs.Ytlmligchjjgcmaa
open Go.RowKit
set_option linter.unusedVariables false
set_option linter.unusedSimpArgs false
section
variable {P : Program} {o : Oper} {a : Act} {w : World} {R : Value → World → Prop}
theorem if_want {c : Bool} {A B : Prop} (hc : c = true) (h : A) : if c = true then A else B := by rw [if_pos hc]; exact h
theorem gives_load_row (ty : TypeId) (x : Operand) (ho : o.op = .load ty x) (g : Nat) (hx : a.eval x = .pointer (some ⟨g, 0, none⟩)) (t : TypeId) (cs : Array Value) (fr : Nat × Nat) (d : TypeDesc) (hg : w.heap[g]? = some (.cells cs t fr))
    (hu : P.underlying ty = some d) (hd : (match d with | .struct _ | .array _ _ => true | _ => false) = true) (hi : (P.info? ty).map (·.size) = some cs.size) (h : R (.agg cs) w) : gives P o a w R := by
  unfold gives execOp
  simp only [ho, hx, Instr.loadAt, Instr.sureAddr, Sem.run_bind, Sem.run_pure, Result.andThen_ok, run_loadVar_row w g t ty cs fr d hg hu hd hi]
  exact h
theorem gives_load_elem (ty : TypeId) (x : Operand) (ho : o.op = .load ty x) (g i : Nat) (hx : a.eval x = .pointer (some ⟨g, i, none⟩)) (t : TypeId) (cs : Array Value) (fr : Nat × Nat) (u : Value) (d : TypeDesc) (hg : w.heap[g]? = some (.cells cs t fr)) (hc : cs[i]? = some u)
    (hu : P.underlying ty = some d) (hd : (match d with | .struct _ | .array _ _ => false | _ => true) = true) (h : R u w) : gives P o a w R := by
  unfold gives execOp
  simp only [ho, hx, Instr.loadAt, Instr.sureAddr, Sem.run_bind, Sem.run_pure, Result.andThen_ok, run_load_elem w g i t ty cs fr u d hg hc hu hd]
  exact h
theorem gives_store_row (ty : TypeId) (x y : Operand) (ho : o.op = .store ty x y) (g : Nat) (cells : Array Value) (hx : a.eval x = .pointer (some ⟨g, 0, none⟩)) (hy : a.eval y = .agg cells)
    (t : TypeId) (old : Array Value) (hg : w.heap[g]? = some (.cells old t (0, 0))) (hi : (P.info? ty).map (·.size) = some cells.size) (hold : old.size = cells.size) (h1 : cells.all (·.oneCell') = true)
    (h : ∀ v w', w'.heap[g]? = some (.cells cells t (0, 0)) → (∀ k, k ≠ g → w'.heap[k]? = w.heap[k]?) → Below g w w' → R v w') : gives P o a w R := by
  unfold gives execOp
  simp only [ho, hx, hy, Instr.storeAt, Instr.sureAddr, Sem.run_bind, Sem.run_pure, Result.andThen_ok, run_storeVar_row w g t ty old cells hg hi hold h1]
  exact h _ _ (setRow_heap _ _ _ _ _ _ hg) (fun k hk => setRow_other _ _ _ _ (by omega)) ⟨rfl, rfl, rfl, by simp, fun k hk => setRow_other _ _ _ _ (by omega)⟩
theorem gives_move (x : Operand) (ho : o.op = .move x) (h : R (a.eval x) w) : gives P o a w R := by
  unfold gives execOp
  simp only [ho, Sem.run_pure]
  exact h
theorem gives_call {f : FuncId} {args : Array Value} (he : (execOp a.eval o).run P w = .ok (.enter f args) w) {v : Value} (hc : Calls P f args w fun e w' => e = .returned v ∧ Below w.heap.size w w') (h : ∀ w', Below w.heap.size w w' → R v w') : gives P o a w R := by
  unfold gives
  rw [he]
  exact hc.mono fun e w' ⟨h1, h2⟩ => ⟨v, h1, h w' h2⟩
theorem gives_alloc (t : TypeId) (ho : o.op = .alloc t) (z : Value) (hz : (P.info? t).map (·.zero) = some (some z)) (h : R (.pointer (some ⟨w.heap.size, 0, none⟩)) (w.alloc (.cells z.cells t))) : gives P o a w R := by
  obtain ⟨i0, hi0, hi1⟩ := Option.map_eq_some_iff.1 hz
  have hzv : ∀ W : World, (zeroValue t).run P W = .ok z W := fun W => by simp [zeroValue, typeInfo, hi0, hi1]
  unfold gives execOp
  simp only [ho]
  simp [Instr.alloc, hzv, newVar, newRow, newObj]
  exact h
/-- What came is what was to come. -/
def Told (val : Nat → Value) (m : Nat) (θ : Nat → Value) (L : Nat → Bool) : Prop := ∀ i, i < m → L i = true → θ i = val i
theorem Told.step {val : Nat → Value} {m : Nat} {θ : Nat → Value} {L : Nat → Bool} (h : Told val m θ L) {i : Nat} {v : Value} (hv : i < m → v = val i) : Told val m (updV θ i v) (updL L i) := by
  intro j hj hl
  by_cases hji : j = i
  · subst hji; rw [updV_same]; exact hv hj
  · rw [updV_ne _ _ hji]; rw [updL_ne _ hji] at hl; exact h j hj hl
end
end Go.Proofs.Ytlmligchjjgcmaa
