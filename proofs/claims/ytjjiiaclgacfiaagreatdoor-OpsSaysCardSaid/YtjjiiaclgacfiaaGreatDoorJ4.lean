/-
  Elements of rows that are known, read and written. No condition.
  An operation as a row of 79 cells; parts of rows, read and written. No condition.
  (ops.Op).named tells what is written here, for all operations and names. No condition beside 64 numbers in a vector.
  What a walk knows of blocks that the call made, each apart from the others: 'Boxes'. No condition.
-/
import Derived.Test.YtjjiiaclgacfiaaGreatDoorJ2
import Derived.Laws.CopyRow
import Derived.Test.YtjjiiaclgacfiaaGreatDoorClkHasJ
namespace Go.Proofs.YtjjiiaclgacfiaaGreatDoor
open Go.RowKit
set_option linter.unusedVariables false
set_option linter.unusedSimpArgs false
section
variable {P : Program} {ops : Array Oper} {rest : List Oper} {o : Oper} {a : Act} {w : World} {Q : Exit → Act → World → Prop}
theorem row_setCell {w : World} {g i : Nat} {cs : Array Value} {t : TypeId} (v : Value) (hg : w.heap[g]? = some (.cells cs t (0, 0))) : (w.setCell ⟨g, i, none⟩ v).heap[g]? = some (.cells (cs.setIfInBounds i v) t (0, 0)) ∧ (∀ k, k ≠ g → (w.setCell ⟨g, i, none⟩ v).heap[k]? = w.heap[k]?) ∧ Below g w (w.setCell ⟨g, i, none⟩ v) ∧ (w.setCell ⟨g, i, none⟩ v).heap.size = w.heap.size :=
  ⟨heap_setCell_same _ _ _ _ _ _ hg, fun k hk => heap_setCell_other _ _ _ _ hk, (Below.refl g w).setCell (p := ⟨g, i, none⟩) (Nat.le_refl g) v, by simp [World.setCell]⟩
theorem run_store_elem (w : World) (g i : Nat) (t ty : TypeId) (cs : Array Value) (u v : Value) (h1 : v.oneCell' = true) (hg : w.heap[g]? = some (.cells cs t (0, 0))) (hc : cs[i]? = some u) (hi : (P.info? ty).map (·.size) = some 1) :
    (storeVar ty ⟨g, i, none⟩ v).run P w = .ok () (w.setCell ⟨g, i, none⟩ v) := by
  have hcell : w.cell? ⟨g, i, none⟩ = some u := by rw [cell_of_row w g i cs t (0, 0) hg]; exact hc
  have hfr : w.frozen? ⟨g, i, none⟩ = false := frozen_of_row w g i cs t hg
  obtain ⟨i0, hq, hs⟩ := Option.map_eq_some_iff.1 hi
  cases v <;> simp [Value.oneCell'] at h1 <;> simp [storeVar, sizeOf, typeInfo, hq, hs, Value.cells, storeCells, hcell, hfr, Addr.add, store, Sem.run]
/-- One cell of a row that is known, written. -/
theorem store_elem (hwt : Region.wanted o (yielded ops a.tmps) = true) (ty : TypeId) (x y : Operand) (ho : o.op = .store ty x y)
    (g i : Nat) (v : Value) (hx : a.eval x = .pointer (some ⟨g, i, none⟩)) (hy : a.eval y = v) (h1 : v.oneCell' = true) (t : TypeId) (cs : Array Value) (u : Value) (hg : w.heap[g]? = some (.cells cs t (0, 0))) (hc : cs[i]? = some u) (hi : (P.info? ty).map (·.size) = some 1)
    (h : ∀ w', w'.heap[g]? = some (.cells (cs.setIfInBounds i v) t (0, 0)) → (∀ k, k ≠ g → w'.heap[k]? = w.heap[k]?) → Below g w w' → w'.heap.size = w.heap.size → wpList P ops Q rest (a.put o.dst undef) w') : wpList P ops Q (o :: rest) a w :=
  BigFrame.wpList_want hwt fun K hK => by
    obtain ⟨r1, r2, r3, r4⟩ := row_setCell (i := i) v hg
    unfold Oper.wp execOp
    simp only [ho, hx, hy, Instr.storeAt, Instr.sureAddr, Sem.run_bind, Sem.run_pure, Result.andThen_ok, run_store_elem w g i t ty cs u v h1 hg hc hi]
    exact hK _ _ (h _ r1 r2 r3 r4)
theorem run_load_elem (w : World) (g i : Nat) (t ty : TypeId) (cs : Array Value) (fr : Nat × Nat) (u : Value) (d : TypeDesc) (hg : w.heap[g]? = some (.cells cs t fr)) (hc : cs[i]? = some u) (hu : P.underlying ty = some d) (hd : (match d with | .struct _ | .array _ _ => false | _ => true) = true) :
    (loadVar ty ⟨g, i, none⟩).run P w = .ok u w := by
  have hcell : w.cell? ⟨g, i, none⟩ = some u := by rw [cell_of_row w g i cs t fr hg]; exact hc
  have hagg : (isAgg ty).run P w = .ok false w := by
    unfold isAgg
    rw [Sem.run_bind, run_underlying hu w]
    cases d <;> simp_all
  simp [loadVar, Sem.run_bind, hagg, hcell]
/-- One cell of a row that is known, read. -/
theorem load_elem (hwt : Region.wanted o (yielded ops a.tmps) = true) (ty : TypeId) (x : Operand) (ho : o.op = .load ty x)
    (g i : Nat) (hx : a.eval x = .pointer (some ⟨g, i, none⟩)) (t : TypeId) (cs : Array Value) (fr : Nat × Nat) (u : Value) (d : TypeDesc) (hg : w.heap[g]? = some (.cells cs t fr)) (hc : cs[i]? = some u) (hu : P.underlying ty = some d) (hd : (match d with | .struct _ | .array _ _ => false | _ => true) = true)
    (h : wpList P ops Q rest (a.put o.dst u) w) : wpList P ops Q (o :: rest) a w :=
  BigFrame.wpList_want hwt fun K hK => by
    unfold Oper.wp execOp
    simp only [ho, hx, Instr.loadAt, Instr.sureAddr, Sem.run_bind, Sem.run_pure, Result.andThen_ok, run_load_elem w g i t ty cs fr u d hg hc hu hd]
    exact hK _ _ h
/-- .. in a region whose order is open. -/
theorem quiet_load_elem {C : World → Prop} {K : Act → Prop} (ty : TypeId) (x : Operand) (ho : o.op = .load ty x)
    (g i : Nat) (hx : a.eval x = .pointer (some ⟨g, i, none⟩)) (t : TypeId) (cs : Array Value) (fr : Nat × Nat) (u : Value) (d : TypeDesc) (hg : ∀ w, C w → w.heap[g]? = some (.cells cs t fr)) (hc : cs[i]? = some u) (hu : P.underlying ty = some d) (hd : (match d with | .struct _ | .array _ _ => false | _ => true) = true)
    (h : K (a.put o.dst u)) : o.quiet P a C K := by
  refine ⟨_, fun w hw => ?_, h⟩
  unfold Oper.quietAt execOp
  simp only [ho, hx, Instr.loadAt, Instr.sureAddr, Sem.run_bind, Sem.run_pure, Result.andThen_ok, run_load_elem w g i t ty cs fr u d (hg w hw) hc hu hd]
  exact ⟨rfl, rfl⟩
/-- A block made. -/
theorem Sees.one {w0 : World} {b : Nat} {ob ob' : Obj} {W' : World} (h : Sees w0 w [(b, ob)]) (ho : ∀ k, k ≠ b → W'.heap[k]? = w.heap[k]?) (hb : Below b w W') (hn : W'.heap[b]? = some ob') : Sees w0 W' [(b, ob')] :=
  Sees.set (L1 := []) (L2 := []) h (fun p hp => by cases hp) ho hb hn
end
end Go.Proofs.YtjjiiaclgacfiaaGreatDoor
namespace Go.Proofs.YtjjiiaclgacfiaaGreatDoor
open Go.RowKit
set_option linter.unusedVariables false
set_option linter.unusedSimpArgs false
section
variable {P : Program} {ops : Array Oper} {rest : List Oper} {o : Oper} {a : Act} {w : World} {Q : Exit → Act → World → Prop}
theorem run_load_sub (w : World) (g i : Nat) (t ty : TypeId) (cs : Array Value) (fr : Nat × Nat) (l : List Value) (d : TypeDesc) (hg : w.heap[g]? = some (.cells cs t fr)) (hl : ∀ j v, l[j]? = some v → cs[i + j]? = some v)
    (hu : P.underlying ty = some d) (hd : (match d with | .struct _ | .array _ _ => true | _ => false) = true) (hi : (P.info? ty).map (·.size) = some l.length) :
    (loadVar ty ⟨g, i, none⟩).run P w = .ok (.agg l.toArray) w := by
  have h2 : (loadCells ⟨g, i, none⟩ l.length).run P w = .ok l.toArray w :=
    run_loadCells_list (P := P) w ⟨g, i, none⟩ l (fun j v hv => by
      have hadd : (⟨g, i, none⟩ : Addr).add j = ⟨g, i + j, none⟩ := by unfold Addr.add; split <;> simp_all
      rw [hadd, cell_of_row w g (i + j) cs t fr hg]
      exact hl j v hv)
  obtain ⟨i0, hq, hs⟩ := Option.map_eq_some_iff.1 hi
  have hagg : (isAgg ty).run P w = .ok true w := by
    unfold isAgg
    rw [Sem.run_bind, run_underlying hu w]
    cases d <;> simp_all
  simp [loadVar, Sem.run_bind, hagg, sizeOf, typeInfo, hq, hs, h2]
/-- A part of a row that is known, read. -/
theorem load_sub (hwt : Region.wanted o (yielded ops a.tmps) = true) (ty : TypeId) (x : Operand) (ho : o.op = .load ty x)
    (g i : Nat) (hx : a.eval x = .pointer (some ⟨g, i, none⟩)) (t : TypeId) (cs : Array Value) (fr : Nat × Nat) (l : List Value) (d : TypeDesc) (hg : w.heap[g]? = some (.cells cs t fr)) (hl : ∀ j v, l[j]? = some v → cs[i + j]? = some v) (hu : P.underlying ty = some d) (hd : (match d with | .struct _ | .array _ _ => true | _ => false) = true) (hi : (P.info? ty).map (·.size) = some l.length)
    (h : wpList P ops Q rest (a.put o.dst (.agg l.toArray)) w) : wpList P ops Q (o :: rest) a w :=
  BigFrame.wpList_want hwt fun K hK => by
    unfold Oper.wp execOp
    simp only [ho, hx, Instr.loadAt, Instr.sureAddr, Sem.run_bind, Sem.run_pure, Result.andThen_ok, run_load_sub w g i t ty cs fr l d hg hl hu hd hi]
    exact hK _ _ h
/-- A part of a row that is known, written. -/
theorem store_sub (hwt : Region.wanted o (yielded ops a.tmps) = true) (ty : TypeId) (x y : Operand) (ho : o.op = .store ty x y)
    (g i : Nat) (l : Array Value) (hx : a.eval x = .pointer (some ⟨g, i, none⟩)) (hy : a.eval y = .agg l) (h1 : ∀ v ∈ l.toList, v.oneCell' = true) (t : TypeId) (cs : Array Value) (hg : w.heap[g]? = some (.cells cs t (0, 0))) (hc : i + l.size ≤ cs.size) (hi : (P.info? ty).map (·.size) = some l.size)
    (h : ∀ w', w'.heap[g]? = some (.cells (cs.toList.take i ++ l.toList ++ cs.toList.drop (i + l.size)).toArray t (0, 0)) → (∀ k, k ≠ g → w'.heap[k]? = w.heap[k]?) → Below g w w' → w'.heap.size = w.heap.size → wpList P ops Q rest (a.put o.dst undef) w') : wpList P ops Q (o :: rest) a w :=
  BigFrame.wpList_want hwt fun K hK => by
    obtain ⟨i0, hq, hs⟩ := Option.map_eq_some_iff.1 hi
    have hst := run_storeCells_at (P := P) g i t l.toList 0 cs w hg (by simpa using hc) h1
    simp only [Nat.add_zero, Array.length_toList] at hst
    have hrun : (storeVar ty ⟨g, i, none⟩ (.agg l)).run P w = .ok () (w.setRow g (cs.toList.take i ++ l.toList ++ cs.toList.drop (i + l.size)).toArray) := by
      simp [storeVar, sizeOf, typeInfo, hq, hs, Value.cells, hst]
    unfold Oper.wp execOp
    simp only [ho, hx, hy, Instr.storeAt, Instr.sureAddr, Sem.run_bind, Sem.run_pure, Result.andThen_ok, hrun]
    exact hK _ _ (h _ (setRow_heap _ _ _ _ _ _ hg) (fun k hk => setRow_other _ _ _ _ (by omega)) ⟨rfl, rfl, rfl, by simp, fun k hk => setRow_other _ _ _ _ (by omega)⟩ (by simp))
/-- The same, the part as an array. -/
theorem load_part (hwt : Region.wanted o (yielded ops a.tmps) = true) (ty : TypeId) (x : Operand) (ho : o.op = .load ty x)
    (g i : Nat) (hx : a.eval x = .pointer (some ⟨g, i, none⟩)) (t : TypeId) (cs : Array Value) (fr : Nat × Nat) (L : Array Value) (d : TypeDesc) (hg : w.heap[g]? = some (.cells cs t fr)) (hl : ∀ j v, L[j]? = some v → cs[i + j]? = some v) (hu : P.underlying ty = some d) (hd : (match d with | .struct _ | .array _ _ => true | _ => false) = true) (hi : (P.info? ty).map (·.size) = some L.size)
    (h : wpList P ops Q rest (a.put o.dst (.agg L)) w) : wpList P ops Q (o :: rest) a w :=
  load_sub hwt ty x ho g i hx t cs fr L.toList d hg (fun j v hj => hl j v (by simpa using hj)) hu hd (by simpa using hi) (by simpa using h)
end
/-- An operation's fields; a value's two lists as they lie. -/
structure OpV where
  R : Int
  N : Int
  T : Int
  seen : List Int
  K : Int
  OR : Int
  ON : Int
  key : ByteArray
  AR : Int
  AN : Int
  M : Int
  VK : Int
  VN : Int
  VS : ByteArray
  VL : Value
  VM : Value
namespace OpV
variable (o : OpV)
def v : List Value := [.int .i64 o.VK, .int .i64 o.VN, .string o.VS, o.VL, o.VM]
def l : List Value := [.int .i64 o.R, .int .i64 o.N, .int .i64 o.T] ++ o.seen.map (Value.int .i64) ++ ([.int .i64 o.K, .int .i64 o.OR, .int .i64 o.ON, .string o.key, .int .i64 o.AR, .int .i64 o.AN, .int .i64 o.M] ++ o.v)
def c : Array Value := o.l.toArray
variable {o}
theorem g0 : o.c[0]? = some (.int .i64 o.R) := by simp [c, l]
theorem g1 : o.c[1]? = some (.int .i64 o.N) := by simp [c, l]
theorem g2 : o.c[2]? = some (.int .i64 o.T) := by simp [c, l]
theorem gs (h : o.seen.length = 64) (i : Nat) (hi : i < 64) : o.c[3 + i]? = some (.int .i64 (vat o.seen i)) := by
  simp only [c, l, List.getElem?_toArray]
  rw [List.append_assoc, List.getElem?_append_right (by simp), List.getElem?_append_left (by simp; omega)]
  simp [vat, List.getD_eq_getElem?_getD, List.getElem?_eq_getElem (show i < o.seen.length by omega)]
theorem gt (h : o.seen.length = 64) (i : Nat) : o.c[67 + i]? = ([.int .i64 o.K, .int .i64 o.OR, .int .i64 o.ON, .string o.key, .int .i64 o.AR, .int .i64 o.AN, .int .i64 o.M] ++ o.v)[i]? := by
  simp only [c, l, List.getElem?_toArray]
  rw [List.getElem?_append_right (by simp; omega)]
  congr 1
  simp; omega
theorem g67 (h : o.seen.length = 64) : o.c[67]? = some (.int .i64 o.K) := gt h 0
theorem g68 (h : o.seen.length = 64) : o.c[68]? = some (.int .i64 o.OR) := gt h 1
theorem g69 (h : o.seen.length = 64) : o.c[69]? = some (.int .i64 o.ON) := gt h 2
theorem g70 (h : o.seen.length = 64) : o.c[70]? = some (.string o.key) := gt h 3
theorem g71 (h : o.seen.length = 64) : o.c[71]? = some (.int .i64 o.AR) := gt h 4
theorem g72 (h : o.seen.length = 64) : o.c[72]? = some (.int .i64 o.AN) := gt h 5
theorem g73 (h : o.seen.length = 64) : o.c[73]? = some (.int .i64 o.M) := gt h 6
theorem g74 (h : o.seen.length = 64) : o.c[74]? = some (.int .i64 o.VK) := gt h 7
theorem g75 (h : o.seen.length = 64) : o.c[75]? = some (.int .i64 o.VN) := gt h 8
theorem g76 (h : o.seen.length = 64) : o.c[76]? = some (.string o.VS) := gt h 9
theorem g77 (h : o.seen.length = 64) : o.c[77]? = some o.VL := gt h 10
theorem g78 (h : o.seen.length = 64) : o.c[78]? = some o.VM := gt h 11
theorem size (h : o.seen.length = 64) : o.c.size = 79 := by simp [c, l, v, h]
theorem sId : ∀ (j : Nat) (x : Value), [Value.int .i64 o.R, .int .i64 o.N][j]? = some x → o.c[0 + j]? = some x := by
  intro j x hx
  match j with
  | 0 => simpa using hx ▸ g0 (o := o)
  | 1 => simpa using hx ▸ g1 (o := o)
  | j + 2 => simp at hx
theorem sSeen (h : o.seen.length = 64) : ∀ (j : Nat) (x : Value), (o.seen.map (Value.int .i64))[j]? = some x → o.c[3 + j]? = some x := by
  intro j x hx
  have hj : j < 64 := by
    have := (List.getElem?_eq_some_iff.1 hx).1
    simpa [h] using this
  rw [gs h j hj, ← hx]
  simp [vat, List.getD_eq_getElem?_getD, List.getElem?_eq_getElem (show j < o.seen.length by omega)]
theorem pSeen (h : o.seen.length = 64) : ∀ (j : Nat) (x : Value), (vcells o.seen)[j]? = some x → o.c[3 + j]? = some x := fun j x hx => sSeen h j x (by simpa [vcells] using hx)
theorem sObj (h : o.seen.length = 64) : ∀ (j : Nat) (x : Value), [Value.int .i64 o.OR, .int .i64 o.ON][j]? = some x → o.c[68 + j]? = some x := by
  intro j x hx
  rw [show 68 + j = 67 + (1 + j) by omega, gt h, ← hx]
  match j with
  | 0 => rfl
  | 1 => rfl
  | j + 2 => simp at hx
theorem sAt (h : o.seen.length = 64) : ∀ (j : Nat) (x : Value), [Value.int .i64 o.AR, .int .i64 o.AN][j]? = some x → o.c[71 + j]? = some x := by
  intro j x hx
  rw [show 71 + j = 67 + (4 + j) by omega, gt h, ← hx]
  match j with
  | 0 => rfl
  | 1 => rfl
  | j + 2 => simp at hx
theorem sV (h : o.seen.length = 64) : ∀ (j : Nat) (x : Value), o.v[j]? = some x → o.c[74 + j]? = some x := by
  intro j x hx
  rw [show 74 + j = 67 + (7 + j) by omega, gt h, ← hx, List.getElem?_append_right (by simp)]
  simp
theorem pId : ∀ (j : Nat) (x : Value), #[Value.int .i64 o.R, .int .i64 o.N][j]? = some x → o.c[0 + j]? = some x := fun j x hx => sId j x (by simpa using hx)
theorem pObj (h : o.seen.length = 64) : ∀ (j : Nat) (x : Value), #[Value.int .i64 o.OR, .int .i64 o.ON][j]? = some x → o.c[68 + j]? = some x := fun j x hx => sObj h j x (by simpa using hx)
theorem pAt (h : o.seen.length = 64) : ∀ (j : Nat) (x : Value), #[Value.int .i64 o.AR, .int .i64 o.AN][j]? = some x → o.c[71 + j]? = some x := fun j x hx => sAt h j x (by simpa using hx)
def vc (o : OpV) : Array Value := #[.int .i64 o.VK, .int .i64 o.VN, .string o.VS, o.VL, o.VM]
theorem pV (h : o.seen.length = 64) : ∀ (j : Nat) (x : Value), o.vc[j]? = some x → o.c[74 + j]? = some x := fun j x hx => sV h j x (by simpa [vc, v] using hx)
end OpV
abbrev opv (o : OpV) : Value := .agg o.c
end Go.Proofs.YtjjiiaclgacfiaaGreatDoor
namespace Go.Proofs.YtjjiiaclgacfiaaGreatDoor
open Go.RowKit
set_option linter.unusedVariables false
set_option linter.unusedSimpArgs false
def namedB (o : OpV) (r n : Int) (nb : Bool) : Bool := if r = 0 ∧ n = 0 then nb else hasB o.seen r n
theorem seen_info (o : OpV) (h : o.seen.length = 64) : (Tryz.prog.info? 25).map (·.size) = some (vcells o.seen).size := by
  rw [vcells_size, h]; kernel_rfl
set_option maxHeartbeats 1000000 in
theorem named_any (o : OpV) (r n : Int) (nb : Bool) (w : World) (ho : o.seen.length = 64) : Calls Tryz.prog 18 #[opv o, .agg #[.int .i64 r, .int .i64 n], .bool nb] w fun e w' => e = .returned (.bool (namedB o r n nb)) ∧ Below w.heap.size w w' := by
  by_cases h1 : r = 0
  · subst h1
    by_cases h2 : n = 0
    · subst h2
      have hh : Hid (namedB o 0 0 nb = nb) := by unfold Hid namedB; simp
      go_enter Tryz.func18, Tryz.ntmps18
      go_wp2
      go_ret
      exact ⟨ret_bool hh.out.symm, ((Below.refl _ _).alloc (Nat.le_refl _) _).alloc (by simp) _⟩
    · have hh : Hid (namedB o 0 n nb = hasB o.seen 0 n) := by unfold Hid namedB; simp [h2]
      have h2b : (n == 0) = false := by simpa using h2
      clear h2
      go_enter Tryz.func18, Tryz.ntmps18
      go_wp2_with (first | (refine load_part rfl 25 (.tmp 11) rfl _ 3 rfl _ _ (0, 0) _ _ (heap_alloc2_old _ _ _) (OpV.pSeen ho) Tryz.underlying25 rfl (seen_info _ ho) ?_) | (go_at_call 30; with_reducible (refine (Has_any _ _ _ _ ho).mono ?_); rintro e w1 ⟨rfl, hb1⟩))
      go_ret
      exact ⟨ret_bool hh.out.symm, below_then (((Below.refl _ _).alloc (Nat.le_refl _) _).alloc (by simp) _) (by simp; omega) hb1⟩
  · have hh : Hid (namedB o r n nb = hasB o.seen r n) := by unfold Hid namedB; simp [h1]
    have h1b : (r == 0) = false := by simpa using h1
    clear h1
    go_enter Tryz.func18, Tryz.ntmps18
    go_wp2_with (first | (refine load_part rfl 25 (.tmp 11) rfl _ 3 rfl _ _ (0, 0) _ _ (heap_alloc2_old _ _ _) (OpV.pSeen ho) Tryz.underlying25 rfl (seen_info _ ho) ?_) | (go_at_call 30; with_reducible (refine (Has_any _ _ _ _ ho).mono ?_); rintro e w1 ⟨rfl, hb1⟩))
    go_ret
    exact ⟨ret_bool hh.out.symm, below_then (((Below.refl _ _).alloc (Nat.le_refl _) _).alloc (by simp) _) (by simp; omega) hb1⟩
end Go.Proofs.YtjjiiaclgacfiaaGreatDoor
namespace Go.Proofs.YtjjiiaclgacfiaaGreatDoor
open Go.RowKit
set_option linter.unusedVariables false
set_option linter.unusedSimpArgs false
structure Boxes (w0 W : World) (L : List (Nat × Obj)) : Prop where
  below : Below w0.heap.size w0 W
  rows : ∀ (i : Nat) p, L[i]? = some p → w0.heap.size ≤ p.1 ∧ W.heap[p.1]? = some p.2
  apart : ∀ (i j : Nat) p q, L[i]? = some p → L[j]? = some q → i ≠ j → p.1 ≠ q.1
namespace Boxes
variable {w0 W W' : World} {L : List (Nat × Obj)} {b : Nat} {o o' : Obj}
theorem start (w : World) : Boxes w w [] := ⟨Below.refl _ _, fun i p hp => by simp at hp, fun i j p q hp => by simp at hp⟩
theorem at_ (h : Boxes w0 W L) (i : Nat) {p : Nat × Obj} (hp : L[i]? = some p) : W.heap[p.1]? = some p.2 := (h.rows i p hp).2
theorem lt (h : Boxes w0 W L) (i : Nat) {p : Nat × Obj} (hp : L[i]? = some p) : p.1 < W.heap.size := (Array.getElem?_eq_some_iff.1 (h.at_ i hp)).1
theorem step (h : Boxes w0 W L) (hb : Below W.heap.size W W') : Boxes w0 W' L :=
  ⟨below_then h.below h.below.size hb, fun i p hp => ⟨(h.rows i p hp).1, (hb.block p.1 (h.lt i hp)).trans (h.at_ i hp)⟩, h.apart⟩
theorem new (h : Boxes w0 W L) (hb : Below W.heap.size W W') (hn : W'.heap[W.heap.size]? = some o) : Boxes w0 W' (L ++ [(W.heap.size, o)]) := by
  have h1 := h.step hb
  refine ⟨h1.below, fun i p hp => ?_, fun i j p q hp hq hij => ?_⟩
  · rcases Nat.lt_or_ge i L.length with hi | hi
    · rw [List.getElem?_append_left hi] at hp; exact h1.rows i p hp
    · rw [List.getElem?_append_right hi] at hp
      have : i - L.length = 0 := by
        rcases Nat.eq_zero_or_pos (i - L.length) with h0 | h0
        · exact h0
        · rw [List.getElem?_eq_none (by simp; omega)] at hp; cases hp
      rw [this] at hp
      obtain rfl := Option.some.inj hp
      exact ⟨h.below.size, hn⟩
  · have key : ∀ (k : Nat) r, (L ++ [(W.heap.size, o)])[k]? = some r → (k < L.length ∧ L[k]? = some r) ∨ (k = L.length ∧ r.1 = W.heap.size) := by
      intro k r hr
      rcases Nat.lt_or_ge k L.length with hk | hk
      · rw [List.getElem?_append_left hk] at hr; exact .inl ⟨hk, hr⟩
      · rw [List.getElem?_append_right hk] at hr
        rcases Nat.eq_zero_or_pos (k - L.length) with h0 | h0
        · rw [h0] at hr; obtain rfl := Option.some.inj hr; exact .inr ⟨by omega, rfl⟩
        · rw [List.getElem?_eq_none (by simp; omega)] at hr; cases hr
    rcases key i p hp with ⟨h2, h3⟩ | ⟨h2, h3⟩ <;> rcases key j q hq with ⟨h4, h5⟩ | ⟨h4, h5⟩
    · exact h.apart i j p q h3 h5 hij
    · have := h.lt i h3; omega
    · have := h.lt j h5; omega
    · omega
theorem alloc (h : Boxes w0 W L) (o : Obj) : Boxes w0 (W.alloc o) (L ++ [(W.heap.size, o)]) := h.new (Below.alloc (Below.refl _ _) (Nat.le_refl _) o) (heap_alloc_new _ _)
/-- A block just made, a row stored into it. -/
theorem box {z : Obj} (h : Boxes w0 W L) (hb : Below W.heap.size (W.alloc z) W') (hn : W'.heap[W.heap.size]? = some o) : Boxes w0 W' (L ++ [(W.heap.size, o)]) :=
  h.new ((Below.alloc (Below.refl _ _) (Nat.le_refl _) z).trans hb) hn
/-- A block that is known, written. -/
theorem put (h : Boxes w0 W L) (i : Nat) (hp : L[i]? = some (b, o)) (ho : ∀ k, k ≠ b → W'.heap[k]? = W.heap[k]?) (hb : Below b W W') (hn : W'.heap[b]? = some o') : Boxes w0 W' (L.set i (b, o')) := by
  have hi : i < L.length := (List.getElem?_eq_some_iff.1 hp).1
  have hfst : ∀ (j : Nat) q, (L.set i (b, o'))[j]? = some q → (j = i ∧ q = (b, o')) ∨ (j ≠ i ∧ L[j]? = some q) := by
    intro j q hq
    rw [List.getElem?_set] at hq
    by_cases hji : i = j
    · subst hji; simp [hi] at hq; exact .inl ⟨rfl, hq.symm⟩
    · rw [if_neg hji] at hq; exact .inr ⟨fun e => hji e.symm, hq⟩
  refine ⟨h.below.trans (hb.mono (h.rows i _ hp).1), fun j q hq => ?_, fun j k q r hq hr hjk => ?_⟩
  · rcases hfst j q hq with ⟨rfl, rfl⟩ | ⟨h1, h2⟩
    · exact ⟨(h.rows j _ hp).1, hn⟩
    · exact ⟨(h.rows j q h2).1, (ho q.1 (h.apart j i q _ h2 hp h1)).trans (h.at_ j h2)⟩
  · rcases hfst j q hq with ⟨rfl, rfl⟩ | ⟨h1, h2⟩ <;> rcases hfst k r hr with ⟨rfl, rfl⟩ | ⟨h3, h4⟩
    · omega
    · exact h.apart j k (b, o) r hp h4 hjk
    · exact h.apart j k q (b, o) h2 hp hjk
    · exact h.apart j k q r h2 h4 hjk
theorem drop {n : Nat} (h : Boxes w0 W L) : Boxes w0 W (L.take n) := by
  have key : ∀ (j : Nat) q, (L.take n)[j]? = some q → L[j]? = some q := by
    intro j q hq
    rw [List.getElem?_take] at hq
    split at hq
    · exact hq
    · cases hq
  exact ⟨h.below, fun i p hp => h.rows i p (key i p hp), fun i j p q hp hq => h.apart i j p q (key i p hp) (key j q hq)⟩
end Boxes
section
variable {P : Program} {ops : Array Oper} {rest : List Oper} {o : Oper} {a : Act} {w : World} {Q : Exit → Act → World → Prop}
/-- The operation is this one (a cheap look ahead of a dear step). -/
theorem gate_op {op : Op} (_ : o.op = op) (h : wpList P ops Q (o :: rest) a w) : wpList P ops Q (o :: rest) a w := h
/-- A block made: the world behind it under a name of its own. -/
theorem alloc_arm (hwt : Region.wanted o (yielded ops a.tmps) = true) (ty : TypeId) (ho : o.op = .alloc ty) {z : Obj} (hr : (Instr.alloc ty true (.tuple #[])).run P w = .ok (.pointer (some ⟨w.heap.size, 0, none⟩)) (w.alloc z))
    (h : ∀ w', Below w.heap.size w w' → w'.heap[w.heap.size]? = some z → wpList P ops Q rest (a.put o.dst (.pointer (some ⟨w.heap.size, 0, none⟩))) w') : wpList P ops Q (o :: rest) a w :=
  BigFrame.wpList_want hwt fun K hK => by
    have hrun : (execOp a.eval o).run P w = .ok (.value (.pointer (some ⟨w.heap.size, 0, none⟩))) (w.alloc z) := by
      unfold execOp
      simp only [ho, Sem.run_bind, hr, Result.andThen_ok, Sem.run_pure]
    unfold Oper.wp
    rw [hrun, Oper.upon_value]
    exact hK _ _ (h _ (Below.alloc (Below.refl _ _) (Nat.le_refl _) z) (heap_alloc_new _ _))
end
end Go.Proofs.YtjjiiaclgacfiaaGreatDoor
