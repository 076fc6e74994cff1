/-
  An operation as a row of 79 cells; parts of rows, read and written. No condition.
-/
import Derived.Test.YtjjiiaclgacfiaaDoorRow
import Derived.Laws.CopyRow
namespace Go.Proofs.YtjjiiaclgacfiaaDoor
open Go.RowKit
set_option linter.unusedVariables false
set_option linter.unusedSimpArgs false
section
variable {P : Program} {ops : Array Oper} {rest : List Oper} {o : Oper} {a : Act} {w : World} {Q : Exit → Act → World → Prop}
theorem run_load_sub (w : World) (g i : Nat) (t ty : TypeId) (cs : Array Value) (fr : Nat × Nat) (l : List Value) (d : TypeDesc) (hg : w.heap[g]? = some (.cells cs t fr)) (hl : ∀ j v, l[j]? = some v → cs[i + j]? = some v)
    (hu : P.underlying ty = some d) (hd : (match d with | .struct _ | .array _ _ => true | _ => false) = true) (hi : (P.info? ty).map (·.size) = some l.length) :
    (loadVar ty ⟨g, i, none⟩).run P w = .ok (.agg l.toArray) w := by
  have h2 : (loadCells ⟨g, i, none⟩ l.length).run P w = .ok l.toArray w :=
    run_loadCells_list (P := P) w ⟨g, i, none⟩ l (fun j v hv => by
      have hadd : (⟨g, i, none⟩ : Addr).add j = ⟨g, i + j, none⟩ := by unfold Addr.add; split <;> simp_all
      rw [hadd, cell_of_row w g (i + j) cs t fr hg]
      exact hl j v hv)
  obtain ⟨i0, hq, hs⟩ := Option.map_eq_some_iff.1 hi
  have hagg : (isAgg ty).run P w = .ok true w := by
    unfold isAgg
    rw [Sem.run_bind, run_underlying hu w]
    cases d <;> simp_all
  simp [loadVar, Sem.run_bind, hagg, sizeOf, typeInfo, hq, hs, h2]
/-- A part of a row that is known, read. -/
theorem load_sub (hwt : Region.wanted o (yielded ops a.tmps) = true) (ty : TypeId) (x : Operand) (ho : o.op = .load ty x)
    (g i : Nat) (hx : a.eval x = .pointer (some ⟨g, i, none⟩)) (t : TypeId) (cs : Array Value) (fr : Nat × Nat) (l : List Value) (d : TypeDesc) (hg : w.heap[g]? = some (.cells cs t fr)) (hl : ∀ j v, l[j]? = some v → cs[i + j]? = some v) (hu : P.underlying ty = some d) (hd : (match d with | .struct _ | .array _ _ => true | _ => false) = true) (hi : (P.info? ty).map (·.size) = some l.length)
    (h : wpList P ops Q rest (a.put o.dst (.agg l.toArray)) w) : wpList P ops Q (o :: rest) a w :=
  BigFrame.wpList_want hwt fun K hK => by
    unfold Oper.wp execOp
    simp only [ho, hx, Instr.loadAt, Instr.sureAddr, Sem.run_bind, Sem.run_pure, Result.andThen_ok, run_load_sub w g i t ty cs fr l d hg hl hu hd hi]
    exact hK _ _ h
/-- A part of a row that is known, written. -/
theorem store_sub (hwt : Region.wanted o (yielded ops a.tmps) = true) (ty : TypeId) (x y : Operand) (ho : o.op = .store ty x y)
    (g i : Nat) (l : Array Value) (hx : a.eval x = .pointer (some ⟨g, i, none⟩)) (hy : a.eval y = .agg l) (h1 : ∀ v ∈ l.toList, v.oneCell' = true) (t : TypeId) (cs : Array Value) (hg : w.heap[g]? = some (.cells cs t (0, 0))) (hc : i + l.size ≤ cs.size) (hi : (P.info? ty).map (·.size) = some l.size)
    (h : ∀ w', w'.heap[g]? = some (.cells (cs.toList.take i ++ l.toList ++ cs.toList.drop (i + l.size)).toArray t (0, 0)) → (∀ k, k ≠ g → w'.heap[k]? = w.heap[k]?) → Below g w w' → w'.heap.size = w.heap.size → wpList P ops Q rest (a.put o.dst undef) w') : wpList P ops Q (o :: rest) a w :=
  BigFrame.wpList_want hwt fun K hK => by
    obtain ⟨i0, hq, hs⟩ := Option.map_eq_some_iff.1 hi
    have hst := run_storeCells_at (P := P) g i t l.toList 0 cs w hg (by simpa using hc) h1
    simp only [Nat.add_zero, Array.length_toList] at hst
    have hrun : (storeVar ty ⟨g, i, none⟩ (.agg l)).run P w = .ok () (w.setRow g (cs.toList.take i ++ l.toList ++ cs.toList.drop (i + l.size)).toArray) := by
      simp [storeVar, sizeOf, typeInfo, hq, hs, Value.cells, hst]
    unfold Oper.wp execOp
    simp only [ho, hx, hy, Instr.storeAt, Instr.sureAddr, Sem.run_bind, Sem.run_pure, Result.andThen_ok, hrun]
    exact hK _ _ (h _ (setRow_heap _ _ _ _ _ _ hg) (fun k hk => setRow_other _ _ _ _ (by omega)) ⟨rfl, rfl, rfl, by simp, fun k hk => setRow_other _ _ _ _ (by omega)⟩ (by simp))
/-- The same, the part as an array. -/
theorem load_part (hwt : Region.wanted o (yielded ops a.tmps) = true) (ty : TypeId) (x : Operand) (ho : o.op = .load ty x)
    (g i : Nat) (hx : a.eval x = .pointer (some ⟨g, i, none⟩)) (t : TypeId) (cs : Array Value) (fr : Nat × Nat) (L : Array Value) (d : TypeDesc) (hg : w.heap[g]? = some (.cells cs t fr)) (hl : ∀ j v, L[j]? = some v → cs[i + j]? = some v) (hu : P.underlying ty = some d) (hd : (match d with | .struct _ | .array _ _ => true | _ => false) = true) (hi : (P.info? ty).map (·.size) = some L.size)
    (h : wpList P ops Q rest (a.put o.dst (.agg L)) w) : wpList P ops Q (o :: rest) a w :=
  load_sub hwt ty x ho g i hx t cs fr L.toList d hg (fun j v hj => hl j v (by simpa using hj)) hu hd (by simpa using hi) (by simpa using h)
end
/-- An operation's fields; a value's two lists as they lie. -/
structure OpV where
  R : Int
  N : Int
  T : Int
  seen : List Int
  K : Int
  OR : Int
  ON : Int
  key : ByteArray
  AR : Int
  AN : Int
  M : Int
  VK : Int
  VN : Int
  VS : ByteArray
  VL : Value
  VM : Value
namespace OpV
variable (o : OpV)
def v : List Value := [.int .i64 o.VK, .int .i64 o.VN, .string o.VS, o.VL, o.VM]
def l : List Value := [.int .i64 o.R, .int .i64 o.N, .int .i64 o.T] ++ o.seen.map (Value.int .i64) ++ ([.int .i64 o.K, .int .i64 o.OR, .int .i64 o.ON, .string o.key, .int .i64 o.AR, .int .i64 o.AN, .int .i64 o.M] ++ o.v)
def c : Array Value := o.l.toArray
variable {o}
theorem g0 : o.c[0]? = some (.int .i64 o.R) := by simp [c, l]
theorem g1 : o.c[1]? = some (.int .i64 o.N) := by simp [c, l]
theorem g2 : o.c[2]? = some (.int .i64 o.T) := by simp [c, l]
theorem gs (h : o.seen.length = 64) (i : Nat) (hi : i < 64) : o.c[3 + i]? = some (.int .i64 (vat o.seen i)) := by
  simp only [c, l, List.getElem?_toArray]
  rw [List.append_assoc, List.getElem?_append_right (by simp), List.getElem?_append_left (by simp; omega)]
  simp [vat, List.getD_eq_getElem?_getD, List.getElem?_eq_getElem (show i < o.seen.length by omega)]
theorem gt (h : o.seen.length = 64) (i : Nat) : o.c[67 + i]? = ([.int .i64 o.K, .int .i64 o.OR, .int .i64 o.ON, .string o.key, .int .i64 o.AR, .int .i64 o.AN, .int .i64 o.M] ++ o.v)[i]? := by
  simp only [c, l, List.getElem?_toArray]
  rw [List.getElem?_append_right (by simp; omega)]
  congr 1
  simp; omega
theorem g67 (h : o.seen.length = 64) : o.c[67]? = some (.int .i64 o.K) := gt h 0
theorem g68 (h : o.seen.length = 64) : o.c[68]? = some (.int .i64 o.OR) := gt h 1
theorem g69 (h : o.seen.length = 64) : o.c[69]? = some (.int .i64 o.ON) := gt h 2
theorem g70 (h : o.seen.length = 64) : o.c[70]? = some (.string o.key) := gt h 3
theorem g71 (h : o.seen.length = 64) : o.c[71]? = some (.int .i64 o.AR) := gt h 4
theorem g72 (h : o.seen.length = 64) : o.c[72]? = some (.int .i64 o.AN) := gt h 5
theorem g73 (h : o.seen.length = 64) : o.c[73]? = some (.int .i64 o.M) := gt h 6
theorem g74 (h : o.seen.length = 64) : o.c[74]? = some (.int .i64 o.VK) := gt h 7
theorem g75 (h : o.seen.length = 64) : o.c[75]? = some (.int .i64 o.VN) := gt h 8
theorem g76 (h : o.seen.length = 64) : o.c[76]? = some (.string o.VS) := gt h 9
theorem g77 (h : o.seen.length = 64) : o.c[77]? = some o.VL := gt h 10
theorem g78 (h : o.seen.length = 64) : o.c[78]? = some o.VM := gt h 11
theorem size (h : o.seen.length = 64) : o.c.size = 79 := by simp [c, l, v, h]
theorem sId : ∀ (j : Nat) (x : Value), [Value.int .i64 o.R, .int .i64 o.N][j]? = some x → o.c[0 + j]? = some x := by
  intro j x hx
  match j with
  | 0 => simpa using hx ▸ g0 (o := o)
  | 1 => simpa using hx ▸ g1 (o := o)
  | j + 2 => simp at hx
theorem sSeen (h : o.seen.length = 64) : ∀ (j : Nat) (x : Value), (o.seen.map (Value.int .i64))[j]? = some x → o.c[3 + j]? = some x := by
  intro j x hx
  have hj : j < 64 := by
    have := (List.getElem?_eq_some_iff.1 hx).1
    simpa [h] using this
  rw [gs h j hj, ← hx]
  simp [vat, List.getD_eq_getElem?_getD, List.getElem?_eq_getElem (show j < o.seen.length by omega)]
theorem pSeen (h : o.seen.length = 64) : ∀ (j : Nat) (x : Value), (vcells o.seen)[j]? = some x → o.c[3 + j]? = some x := fun j x hx => sSeen h j x (by simpa [vcells] using hx)
theorem sObj (h : o.seen.length = 64) : ∀ (j : Nat) (x : Value), [Value.int .i64 o.OR, .int .i64 o.ON][j]? = some x → o.c[68 + j]? = some x := by
  intro j x hx
  rw [show 68 + j = 67 + (1 + j) by omega, gt h, ← hx]
  match j with
  | 0 => rfl
  | 1 => rfl
  | j + 2 => simp at hx
theorem sAt (h : o.seen.length = 64) : ∀ (j : Nat) (x : Value), [Value.int .i64 o.AR, .int .i64 o.AN][j]? = some x → o.c[71 + j]? = some x := by
  intro j x hx
  rw [show 71 + j = 67 + (4 + j) by omega, gt h, ← hx]
  match j with
  | 0 => rfl
  | 1 => rfl
  | j + 2 => simp at hx
theorem sV (h : o.seen.length = 64) : ∀ (j : Nat) (x : Value), o.v[j]? = some x → o.c[74 + j]? = some x := by
  intro j x hx
  rw [show 74 + j = 67 + (7 + j) by omega, gt h, ← hx, List.getElem?_append_right (by simp)]
  simp
theorem pId : ∀ (j : Nat) (x : Value), #[Value.int .i64 o.R, .int .i64 o.N][j]? = some x → o.c[0 + j]? = some x := fun j x hx => sId j x (by simpa using hx)
theorem pObj (h : o.seen.length = 64) : ∀ (j : Nat) (x : Value), #[Value.int .i64 o.OR, .int .i64 o.ON][j]? = some x → o.c[68 + j]? = some x := fun j x hx => sObj h j x (by simpa using hx)
theorem pAt (h : o.seen.length = 64) : ∀ (j : Nat) (x : Value), #[Value.int .i64 o.AR, .int .i64 o.AN][j]? = some x → o.c[71 + j]? = some x := fun j x hx => sAt h j x (by simpa using hx)
def vc (o : OpV) : Array Value := #[.int .i64 o.VK, .int .i64 o.VN, .string o.VS, o.VL, o.VM]
theorem pV (h : o.seen.length = 64) : ∀ (j : Nat) (x : Value), o.vc[j]? = some x → o.c[74 + j]? = some x := fun j x hx => sV h j x (by simpa [vc, v] using hx)
end OpV
abbrev opv (o : OpV) : Value := .agg o.c
end Go.Proofs.YtjjiiaclgacfiaaDoor
