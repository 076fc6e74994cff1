/-
  Parts of rows, read and written. No condition.
-/
import Derived.Test.YtffcpmohanhihaaGreatDoorJ5
import Derived.Laws.CopyRow
namespace Go.Proofs.YtffcpmohanhihaaGreatDoor
open Go.RowKit
set_option linter.unusedVariables false
set_option linter.unusedSimpArgs false
section
variable {P : Program} {ops : Array Oper} {rest : List Oper} {o : Oper} {a : Act} {w : World} {Q : Exit → Act → World → Prop}
theorem run_load_sub (w : World) (g i : Nat) (t ty : TypeId) (cs : Array Value) (fr : Nat × Nat) (l : List Value) (d : TypeDesc) (hg : w.heap[g]? = some (.cells cs t fr)) (hl : ∀ j v, l[j]? = some v → cs[i + j]? = some v)
    (hu : P.underlying ty = some d) (hd : (match d with | .struct _ | .array _ _ => true | _ => false) = true) (hi : (P.info? ty).map (·.size) = some l.length) :
    (loadVar ty ⟨g, i, none⟩).run P w = .ok (.agg l.toArray) w := by
  have h2 : (loadCells ⟨g, i, none⟩ l.length).run P w = .ok l.toArray w :=
    run_loadCells_list (P := P) w ⟨g, i, none⟩ l (fun j v hv => by
      have hadd : (⟨g, i, none⟩ : Addr).add j = ⟨g, i + j, none⟩ := by unfold Addr.add; split <;> simp_all
      rw [hadd, cell_of_row w g (i + j) cs t fr hg]
      exact hl j v hv)
  obtain ⟨i0, hq, hs⟩ := Option.map_eq_some_iff.1 hi
  have hagg : (isAgg ty).run P w = .ok true w := by
    unfold isAgg
    rw [Sem.run_bind, run_underlying hu w]
    cases d <;> simp_all
  simp [loadVar, Sem.run_bind, hagg, sizeOf, typeInfo, hq, hs, h2]
/-- A part of a row that is known, read. -/
theorem load_sub (hwt : Region.wanted o (yielded ops a.tmps) = true) (ty : TypeId) (x : Operand) (ho : o.op = .load ty x)
    (g i : Nat) (hx : a.eval x = .pointer (some ⟨g, i, none⟩)) (t : TypeId) (cs : Array Value) (fr : Nat × Nat) (l : List Value) (d : TypeDesc) (hg : w.heap[g]? = some (.cells cs t fr)) (hl : ∀ j v, l[j]? = some v → cs[i + j]? = some v) (hu : P.underlying ty = some d) (hd : (match d with | .struct _ | .array _ _ => true | _ => false) = true) (hi : (P.info? ty).map (·.size) = some l.length)
    (h : wpList P ops Q rest (a.put o.dst (.agg l.toArray)) w) : wpList P ops Q (o :: rest) a w :=
  BigFrame.wpList_want hwt fun K hK => by
    unfold Oper.wp execOp
    simp only [ho, hx, Instr.loadAt, Instr.sureAddr, Sem.run_bind, Sem.run_pure, Result.andThen_ok, run_load_sub w g i t ty cs fr l d hg hl hu hd hi]
    exact hK _ _ h
/-- A part of a row that is known, written. -/
theorem store_sub (hwt : Region.wanted o (yielded ops a.tmps) = true) (ty : TypeId) (x y : Operand) (ho : o.op = .store ty x y)
    (g i : Nat) (l : Array Value) (hx : a.eval x = .pointer (some ⟨g, i, none⟩)) (hy : a.eval y = .agg l) (h1 : ∀ v ∈ l.toList, v.oneCell' = true) (t : TypeId) (cs : Array Value) (hg : w.heap[g]? = some (.cells cs t (0, 0))) (hc : i + l.size ≤ cs.size) (hi : (P.info? ty).map (·.size) = some l.size)
    (h : ∀ w', w'.heap[g]? = some (.cells (cs.toList.take i ++ l.toList ++ cs.toList.drop (i + l.size)).toArray t (0, 0)) → (∀ k, k ≠ g → w'.heap[k]? = w.heap[k]?) → Below g w w' → w'.heap.size = w.heap.size → wpList P ops Q rest (a.put o.dst undef) w') : wpList P ops Q (o :: rest) a w :=
  BigFrame.wpList_want hwt fun K hK => by
    obtain ⟨i0, hq, hs⟩ := Option.map_eq_some_iff.1 hi
    have hst := run_storeCells_at (P := P) g i t l.toList 0 cs w hg (by simpa using hc) h1
    simp only [Nat.add_zero, Array.length_toList] at hst
    have hrun : (storeVar ty ⟨g, i, none⟩ (.agg l)).run P w = .ok () (w.setRow g (cs.toList.take i ++ l.toList ++ cs.toList.drop (i + l.size)).toArray) := by
      simp [storeVar, sizeOf, typeInfo, hq, hs, Value.cells, hst]
    unfold Oper.wp execOp
    simp only [ho, hx, hy, Instr.storeAt, Instr.sureAddr, Sem.run_bind, Sem.run_pure, Result.andThen_ok, hrun]
    exact hK _ _ (h _ (setRow_heap _ _ _ _ _ _ hg) (fun k hk => setRow_other _ _ _ _ (by omega)) ⟨rfl, rfl, rfl, by simp, fun k hk => setRow_other _ _ _ _ (by omega)⟩ (by simp))
/-- The same, the part as an array. -/
theorem load_part (hwt : Region.wanted o (yielded ops a.tmps) = true) (ty : TypeId) (x : Operand) (ho : o.op = .load ty x)
    (g i : Nat) (hx : a.eval x = .pointer (some ⟨g, i, none⟩)) (t : TypeId) (cs : Array Value) (fr : Nat × Nat) (L : Array Value) (d : TypeDesc) (hg : w.heap[g]? = some (.cells cs t fr)) (hl : ∀ j v, L[j]? = some v → cs[i + j]? = some v) (hu : P.underlying ty = some d) (hd : (match d with | .struct _ | .array _ _ => true | _ => false) = true) (hi : (P.info? ty).map (·.size) = some L.size)
    (h : wpList P ops Q rest (a.put o.dst (.agg L)) w) : wpList P ops Q (o :: rest) a w :=
  load_sub hwt ty x ho g i hx t cs fr L.toList d hg (fun j v hj => hl j v (by simpa using hj)) hu hd (by simpa using hi) (by simpa using h)
end
end Go.Proofs.YtffcpmohanhihaaGreatDoor
