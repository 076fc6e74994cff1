/-
  What a walk knows of the blocks that the call made: 'Sees'. No condition.
  Elements of rows that are known, read and written. No condition.
  What single operations give, for regions whose order is open. No condition.
  A region taken out of its function by its number, and single operations of it. No condition.
-/
import Derived.Test.YtffcpmohanhihaaGreatDoorJ2
import Derived.Test.YtffcpmohanhihaaGreatDoorReg
namespace Go.Proofs.YtffcpmohanhihaaGreatDoor
open Go.RowKit
/-- Of what was there when the call began nothing has turned; these blocks are known. -/
structure Sees (w0 W : World) (L : List (Nat × Obj)) : Prop where
  below : Below w0.heap.size w0 W
  rows : ∀ p ∈ L, w0.heap.size ≤ p.1 ∧ W.heap[p.1]? = some p.2
namespace Sees
variable {w0 W W' : World} {L : List (Nat × Obj)} {b : Nat} {o : Obj}
theorem start (w : World) : Sees w w [] := ⟨Below.refl _ _, fun p hp => by cases hp⟩
theorem step (h : Sees w0 W L) (hb : Below W.heap.size W W') : Sees w0 W' L :=
  ⟨below_then h.below h.below.size hb, fun p hp => ⟨(h.rows p hp).1, (hb.block p.1 (Array.getElem?_eq_some_iff.1 (h.rows p hp).2).1).trans (h.rows p hp).2⟩⟩
theorem alloc (h : Sees w0 W L) (o : Obj) : Sees w0 (W.alloc o) (L ++ [(W.heap.size, o)]) :=
  ⟨h.below.alloc h.below.size o, fun p hp => by
    rcases List.mem_append.1 hp with hp | hp
    · exact ⟨(h.rows p hp).1, (Below.heap_alloc _ _ _ (Array.getElem?_eq_some_iff.1 (h.rows p hp).2).1).trans (h.rows p hp).2⟩
    · obtain rfl := List.mem_singleton.1 hp
      exact ⟨h.below.size, heap_alloc_new _ _⟩⟩
theorem fresh (h : Sees w0 W L) (o : Obj) : Sees w0 (W.alloc o) L := h.step (Below.alloc (Below.refl _ _) (Nat.le_refl _) o)
/-- A block just made, a row stored into it. -/
theorem box {z : Obj} (h : Sees w0 W L) (ho : ∀ k, k ≠ W.heap.size → W'.heap[k]? = (W.alloc z).heap[k]?) (hb : Below W.heap.size (W.alloc z) W') (hn : W'.heap[W.heap.size]? = some o) : Sees w0 W' (L ++ [(W.heap.size, o)]) :=
  ⟨(h.below.alloc h.below.size z).trans (hb.mono h.below.size), fun p hp => by
    rcases List.mem_append.1 hp with hp | hp
    · have hlt := (Array.getElem?_eq_some_iff.1 (h.rows p hp).2).1
      exact ⟨(h.rows p hp).1, (ho p.1 (by omega)).trans ((Below.heap_alloc _ _ _ hlt).trans (h.rows p hp).2)⟩
    · obtain rfl := List.mem_singleton.1 hp
      exact ⟨h.below.size, hn⟩⟩
theorem get (h : Sees w0 W L) (p : Nat × Obj) (hp : p ∈ L) : W.heap[p.1]? = some p.2 := (h.rows p hp).2
theorem g0 {p : Nat × Obj} (h : Sees w0 W (p :: L)) : W.heap[p.1]? = some p.2 := h.get p (by simp)
theorem g1 {p q : Nat × Obj} (h : Sees w0 W (p :: q :: L)) : W.heap[q.1]? = some q.2 := h.get q (by simp)
theorem g2 {p q r : Nat × Obj} (h : Sees w0 W (p :: q :: r :: L)) : W.heap[r.1]? = some r.2 := h.get r (by simp)
theorem g3 {p q r s : Nat × Obj} (h : Sees w0 W (p :: q :: r :: s :: L)) : W.heap[s.1]? = some s.2 := h.get s (by simp)
theorem g4 {p q r s t : Nat × Obj} (h : Sees w0 W (p :: q :: r :: s :: t :: L)) : W.heap[t.1]? = some t.2 := h.get t (by simp)
theorem lt {p : Nat × Obj} (h : Sees w0 W L) (hp : p ∈ L) : p.1 < W.heap.size := (Array.getElem?_eq_some_iff.1 (h.rows p hp).2).1
/-- A block that is known and written, the others as they were. -/
theorem set {L1 L2 : List (Nat × Obj)} {o' : Obj} (h : Sees w0 W (L1 ++ (b, o) :: L2)) (hne : ∀ p ∈ L1 ++ L2, p.1 ≠ b) (ho : ∀ k, k ≠ b → W'.heap[k]? = W.heap[k]?) (hb : Below b W W') (hn : W'.heap[b]? = some o') : Sees w0 W' (L1 ++ (b, o') :: L2) :=
  ⟨h.below.trans (hb.mono (h.rows (b, o) (by simp)).1), fun p hp => by
    rcases List.mem_append.1 hp with hp | hp
    · have h1 := h.rows p (by simp [hp])
      exact ⟨h1.1, (ho p.1 (hne p (by simp [hp]))).trans h1.2⟩
    · rcases List.mem_cons.1 hp with rfl | hp
      · exact ⟨(h.rows (b, o) (by simp)).1, hn⟩
      · have h1 := h.rows p (by simp [hp])
        exact ⟨h1.1, (ho p.1 (hne p (by simp [hp]))).trans h1.2⟩⟩
/-- A block from the beginning on, known by another way. -/
theorem add (h : Sees w0 W L) (hb : w0.heap.size ≤ b) (hn : W.heap[b]? = some o) : Sees w0 W (L ++ [(b, o)]) :=
  ⟨h.below, fun p hp => by
    rcases List.mem_append.1 hp with hp | hp
    · exact h.rows p hp
    · obtain rfl := List.mem_singleton.1 hp
      exact ⟨hb, hn⟩⟩
end Sees
/-- A slice of the call's own that isn't empty: its block. -/
theorem own_block {w : World} {base : Nat} {e : TypeId} {size n : Nat} {v : Value} {xs : List Value} (h : w.ownsRow base e size v n xs) (hn : 0 < n) :
    ∃ g cap cur, v = .slice (some ⟨g, 0, none⟩) n cap ∧ base ≤ g ∧ n ≤ cap ∧ cap ≤ maxLen ∧ w.heap[g]? = some (.cells cur e (0, 0)) ∧ ∀ (j : Nat) (u : Value), xs[j]? = some u → cur[j]? = some u := by
  rcases h.2 with ⟨_, h0⟩ | ⟨g, cap, cur, rfl, hb, hh, h1, h2, h3, h4⟩
  · omega
  · refine ⟨g, cap, cur, rfl, hb, h1, h2, hh, fun j u hu => ?_⟩
    have h5 : (cur.toList.take xs.length)[j]? = some u := by
      have h6 : cur.toList.take (n * size) = xs := by simpa using h4
      rw [h.1, h6]; exact hu
    have hj : j < xs.length := (List.getElem?_eq_some_iff.1 hu).1
    rw [List.getElem?_take, if_pos hj] at h5
    simpa using h5
end Go.Proofs.YtffcpmohanhihaaGreatDoor
namespace Go.Proofs.YtffcpmohanhihaaGreatDoor
open Go.RowKit
set_option linter.unusedVariables false
set_option linter.unusedSimpArgs false
section
variable {P : Program} {ops : Array Oper} {rest : List Oper} {o : Oper} {a : Act} {w : World} {Q : Exit → Act → World → Prop}
theorem row_setCell {w : World} {g i : Nat} {cs : Array Value} {t : TypeId} (v : Value) (hg : w.heap[g]? = some (.cells cs t (0, 0))) : (w.setCell ⟨g, i, none⟩ v).heap[g]? = some (.cells (cs.setIfInBounds i v) t (0, 0)) ∧ (∀ k, k ≠ g → (w.setCell ⟨g, i, none⟩ v).heap[k]? = w.heap[k]?) ∧ Below g w (w.setCell ⟨g, i, none⟩ v) ∧ (w.setCell ⟨g, i, none⟩ v).heap.size = w.heap.size :=
  ⟨heap_setCell_same _ _ _ _ _ _ hg, fun k hk => heap_setCell_other _ _ _ _ hk, (Below.refl g w).setCell (p := ⟨g, i, none⟩) (Nat.le_refl g) v, by simp [World.setCell]⟩
theorem run_store_elem (w : World) (g i : Nat) (t ty : TypeId) (cs : Array Value) (u v : Value) (h1 : v.oneCell' = true) (hg : w.heap[g]? = some (.cells cs t (0, 0))) (hc : cs[i]? = some u) (hi : (P.info? ty).map (·.size) = some 1) :
    (storeVar ty ⟨g, i, none⟩ v).run P w = .ok () (w.setCell ⟨g, i, none⟩ v) := by
  have hcell : w.cell? ⟨g, i, none⟩ = some u := by rw [cell_of_row w g i cs t (0, 0) hg]; exact hc
  have hfr : w.frozen? ⟨g, i, none⟩ = false := frozen_of_row w g i cs t hg
  obtain ⟨i0, hq, hs⟩ := Option.map_eq_some_iff.1 hi
  cases v <;> simp [Value.oneCell'] at h1 <;> simp [storeVar, sizeOf, typeInfo, hq, hs, Value.cells, storeCells, hcell, hfr, Addr.add, store, Sem.run]
/-- One cell of a row that is known, written. -/
theorem store_elem (hwt : Region.wanted o (yielded ops a.tmps) = true) (ty : TypeId) (x y : Operand) (ho : o.op = .store ty x y)
    (g i : Nat) (v : Value) (hx : a.eval x = .pointer (some ⟨g, i, none⟩)) (hy : a.eval y = v) (h1 : v.oneCell' = true) (t : TypeId) (cs : Array Value) (u : Value) (hg : w.heap[g]? = some (.cells cs t (0, 0))) (hc : cs[i]? = some u) (hi : (P.info? ty).map (·.size) = some 1)
    (h : ∀ w', w'.heap[g]? = some (.cells (cs.setIfInBounds i v) t (0, 0)) → (∀ k, k ≠ g → w'.heap[k]? = w.heap[k]?) → Below g w w' → w'.heap.size = w.heap.size → wpList P ops Q rest (a.put o.dst undef) w') : wpList P ops Q (o :: rest) a w :=
  BigFrame.wpList_want hwt fun K hK => by
    obtain ⟨r1, r2, r3, r4⟩ := row_setCell (i := i) v hg
    unfold Oper.wp execOp
    simp only [ho, hx, hy, Instr.storeAt, Instr.sureAddr, Sem.run_bind, Sem.run_pure, Result.andThen_ok, run_store_elem w g i t ty cs u v h1 hg hc hi]
    exact hK _ _ (h _ r1 r2 r3 r4)
theorem run_load_elem (w : World) (g i : Nat) (t ty : TypeId) (cs : Array Value) (fr : Nat × Nat) (u : Value) (d : TypeDesc) (hg : w.heap[g]? = some (.cells cs t fr)) (hc : cs[i]? = some u) (hu : P.underlying ty = some d) (hd : (match d with | .struct _ | .array _ _ => false | _ => true) = true) :
    (loadVar ty ⟨g, i, none⟩).run P w = .ok u w := by
  have hcell : w.cell? ⟨g, i, none⟩ = some u := by rw [cell_of_row w g i cs t fr hg]; exact hc
  have hagg : (isAgg ty).run P w = .ok false w := by
    unfold isAgg
    rw [Sem.run_bind, run_underlying hu w]
    cases d <;> simp_all
  simp [loadVar, Sem.run_bind, hagg, hcell]
/-- One cell of a row that is known, read. -/
theorem load_elem (hwt : Region.wanted o (yielded ops a.tmps) = true) (ty : TypeId) (x : Operand) (ho : o.op = .load ty x)
    (g i : Nat) (hx : a.eval x = .pointer (some ⟨g, i, none⟩)) (t : TypeId) (cs : Array Value) (fr : Nat × Nat) (u : Value) (d : TypeDesc) (hg : w.heap[g]? = some (.cells cs t fr)) (hc : cs[i]? = some u) (hu : P.underlying ty = some d) (hd : (match d with | .struct _ | .array _ _ => false | _ => true) = true)
    (h : wpList P ops Q rest (a.put o.dst u) w) : wpList P ops Q (o :: rest) a w :=
  BigFrame.wpList_want hwt fun K hK => by
    unfold Oper.wp execOp
    simp only [ho, hx, Instr.loadAt, Instr.sureAddr, Sem.run_bind, Sem.run_pure, Result.andThen_ok, run_load_elem w g i t ty cs fr u d hg hc hu hd]
    exact hK _ _ h
/-- .. in a region whose order is open. -/
theorem quiet_load_elem {C : World → Prop} {K : Act → Prop} (ty : TypeId) (x : Operand) (ho : o.op = .load ty x)
    (g i : Nat) (hx : a.eval x = .pointer (some ⟨g, i, none⟩)) (t : TypeId) (cs : Array Value) (fr : Nat × Nat) (u : Value) (d : TypeDesc) (hg : ∀ w, C w → w.heap[g]? = some (.cells cs t fr)) (hc : cs[i]? = some u) (hu : P.underlying ty = some d) (hd : (match d with | .struct _ | .array _ _ => false | _ => true) = true)
    (h : K (a.put o.dst u)) : o.quiet P a C K := by
  refine ⟨_, fun w hw => ?_, h⟩
  unfold Oper.quietAt execOp
  simp only [ho, hx, Instr.loadAt, Instr.sureAddr, Sem.run_bind, Sem.run_pure, Result.andThen_ok, run_load_elem w g i t ty cs fr u d (hg w hw) hc hu hd]
  exact ⟨rfl, rfl⟩
/-- A block made. -/
theorem Sees.one {w0 : World} {b : Nat} {ob ob' : Obj} {W' : World} (h : Sees w0 w [(b, ob)]) (ho : ∀ k, k ≠ b → W'.heap[k]? = w.heap[k]?) (hb : Below b w W') (hn : W'.heap[b]? = some ob') : Sees w0 W' [(b, ob')] :=
  Sees.set (L1 := []) (L2 := []) h (fun p hp => by cases hp) ho hb hn
end
end Go.Proofs.YtffcpmohanhihaaGreatDoor
namespace Go.Proofs.YtffcpmohanhihaaGreatDoor
open Go.RowKit
set_option linter.unusedVariables false
set_option linter.unusedSimpArgs false
/-- Slot t, behind the first n, holds what operation j gave. -/
def lastIs (ops : Array Oper) (n t j : Nat) : Bool := decide (j < n) && (dstOf ops j == some t) && (List.range n).all fun k => decide (k ≤ j) || !(dstOf ops k == some t)
def noneIs (ops : Array Oper) (n t : Nat) : Bool := (List.range n).all fun k => !(dstOf ops k == some t)
theorem seqTo_size {ops : Array Oper} (θ : Nat → Value) (a0 : Act) (n : Nat) : (seqTo ops θ a0 n).tmps.size = a0.tmps.size := by
  induction n with
  | zero => rfl
  | succ n ih => simp only [seqTo, put_size, ih]
theorem seqTo_keep {ops : Array Oper} (θ : Nat → Value) (a0 : Act) (t m d : Nat) (h : ∀ k, m ≤ k → k < m + d → dstOf ops k ≠ some t) : (seqTo ops θ a0 (m + d)).tmps[t]? = (seqTo ops θ a0 m).tmps[t]? := by
  induction d with
  | zero => rfl
  | succ d ih =>
    rw [← Nat.add_assoc]
    simp only [seqTo]
    rw [put_slot_ne _ _ _ _ (h (m + d) (by omega) (by omega))]
    exact ih (fun k h1 h2 => h k h1 (by omega))
theorem seq_at {ops : Array Oper} {θ : Nat → Value} {a0 : Act} {n t j : Nat} (h : lastIs ops n t j = true) (ht : decide (t < a0.tmps.size) = true) {v : Value} (hv : θ j = v) : (seqTo ops θ a0 n).eval (.tmp t) = v := by
  simp only [lastIs, Bool.and_eq_true, decide_eq_true_eq, beq_iff_eq] at h
  obtain ⟨⟨h1, h2⟩, h3⟩ := h
  obtain ⟨d, rfl⟩ : ∃ d, n = j + 1 + d := ⟨n - (j + 1), by omega⟩
  have hk := seqTo_keep θ a0 t (j + 1) d (fun k hk1 hk2 => by
    have := List.all_eq_true.1 h3 k (List.mem_range.2 hk2)
    simp only [Bool.or_eq_true, decide_eq_true_eq, Bool.not_eq_true', beq_eq_false_iff_ne] at this
    rcases this with this | this
    · omega
    · exact this)
  simp only [Act.eval, Array.getD_eq_getD_getElem?, hk]
  simp only [seqTo, h2, put_slot_eq, seqTo_size, of_decide_eq_true ht, if_true]
  exact hv
theorem seq_old {ops : Array Oper} {θ : Nat → Value} {a0 : Act} {n t : Nat} (h : noneIs ops n t = true) {v : Value} (hv : a0.eval (.tmp t) = v) : (seqTo ops θ a0 n).eval (.tmp t) = v := by
  have hk := seqTo_keep θ a0 t 0 n (fun k _ hk2 => by
    have := List.all_eq_true.1 h k (List.mem_range.2 (by omega))
    simpa only [Bool.not_eq_true', beq_eq_false_iff_ne] using this)
  rw [Nat.zero_add] at hk
  rw [← hv]
  simp only [Act.eval, Array.getD_eq_getD_getElem?, hk]
  rfl
section
variable {P : Program} {o : Oper} {a : Act} {w : World} {R : Value → World → Prop}
theorem if_want {c : Bool} {A B : Prop} (hc : c = true) (h : A) : if c = true then A else B := by rw [if_pos hc]; exact h
theorem gives_load_row (ty : TypeId) (x : Operand) (ho : o.op = .load ty x) (g : Nat) (hx : a.eval x = .pointer (some ⟨g, 0, none⟩)) (t : TypeId) (cs : Array Value) (fr : Nat × Nat) (d : TypeDesc) (hg : w.heap[g]? = some (.cells cs t fr))
    (hu : P.underlying ty = some d) (hd : (match d with | .struct _ | .array _ _ => true | _ => false) = true) (hi : (P.info? ty).map (·.size) = some cs.size) (h : R (.agg cs) w) : gives P o a w R := by
  unfold gives execOp
  simp only [ho, hx, Instr.loadAt, Instr.sureAddr, Sem.run_bind, Sem.run_pure, Result.andThen_ok, run_loadVar_row w g t ty cs fr d hg hu hd hi]
  exact h
theorem gives_load_elem (ty : TypeId) (x : Operand) (ho : o.op = .load ty x) (g i : Nat) (hx : a.eval x = .pointer (some ⟨g, i, none⟩)) (t : TypeId) (cs : Array Value) (fr : Nat × Nat) (u : Value) (d : TypeDesc) (hg : w.heap[g]? = some (.cells cs t fr)) (hc : cs[i]? = some u)
    (hu : P.underlying ty = some d) (hd : (match d with | .struct _ | .array _ _ => false | _ => true) = true) (h : R u w) : gives P o a w R := by
  unfold gives execOp
  simp only [ho, hx, Instr.loadAt, Instr.sureAddr, Sem.run_bind, Sem.run_pure, Result.andThen_ok, run_load_elem w g i t ty cs fr u d hg hc hu hd]
  exact h
theorem gives_store_row (ty : TypeId) (x y : Operand) (ho : o.op = .store ty x y) (g : Nat) (cells : Array Value) (hx : a.eval x = .pointer (some ⟨g, 0, none⟩)) (hy : a.eval y = .agg cells)
    (t : TypeId) (old : Array Value) (hg : w.heap[g]? = some (.cells old t (0, 0))) (hi : (P.info? ty).map (·.size) = some cells.size) (hold : old.size = cells.size) (h1 : cells.all (·.oneCell') = true)
    (h : ∀ v w', w'.heap[g]? = some (.cells cells t (0, 0)) → (∀ k, k ≠ g → w'.heap[k]? = w.heap[k]?) → Below g w w' → R v w') : gives P o a w R := by
  unfold gives execOp
  simp only [ho, hx, hy, Instr.storeAt, Instr.sureAddr, Sem.run_bind, Sem.run_pure, Result.andThen_ok, run_storeVar_row w g t ty old cells hg hi hold h1]
  exact h _ _ (setRow_heap _ _ _ _ _ _ hg) (fun k hk => setRow_other _ _ _ _ (by omega)) ⟨rfl, rfl, rfl, by simp, fun k hk => setRow_other _ _ _ _ (by omega)⟩
theorem gives_move (x : Operand) (ho : o.op = .move x) {v : Value} (hx : a.eval x = v) (h : R v w) : gives P o a w R := by
  unfold gives execOp
  simp only [ho, hx, Sem.run_pure]
  exact h
theorem gives_call {f : FuncId} {args : Array Value} (he : (execOp a.eval o).run P w = .ok (.enter f args) w) {v : Value} (hc : Calls P f args w fun e w' => e = .returned v ∧ Below w.heap.size w w') (h : ∀ w', Below w.heap.size w w' → R v w') : gives P o a w R := by
  unfold gives
  rw [he]
  exact hc.mono fun e w' ⟨h1, h2⟩ => ⟨v, h1, h w' h2⟩
theorem gives_alloc (t : TypeId) (ho : o.op = .alloc t) (z : Value) (hz : (P.info? t).map (·.zero) = some (some z)) (h : R (.pointer (some ⟨w.heap.size, 0, none⟩)) (w.alloc (.cells z.cells t))) : gives P o a w R := by
  obtain ⟨i0, hi0, hi1⟩ := Option.map_eq_some_iff.1 hz
  have hzv : ∀ W : World, (zeroValue t).run P W = .ok z W := fun W => by simp [zeroValue, typeInfo, hi0, hi1]
  unfold gives execOp
  simp only [ho]
  simp [Instr.alloc, hzv, newVar, newRow, newObj]
  exact h
theorem gives_callf {f : FuncId} {fn : Func} {c : Code} (xs : Array Operand) (ts : Array TypeId) (ho : o.op = .call { callee := .value (.func f), args := xs, argTypes := ts }) (hf : P.funcs[f]? = some fn) (hn : (fn.name == "runtime.NumGoroutine") = false) (hb : fn.body = some c) (vs : Array Value) (hx : xs.map a.eval = vs)
    {v : Value} (hc : Calls P f vs w fun e w' => e = .returned v ∧ Below w.heap.size w w') (h : ∀ w', Below w.heap.size w w' → R v w') : gives P o a w R := by
  refine gives_call (f := f) (args := vs) ?_ hc h
  have h1 : fn.name ≠ "runtime.NumGoroutine" := by simpa using hn
  unfold execOp
  simp only [ho, resolve, hx, Act.eval, Deferred.ofValue, Sem.run_bind, Sem.run_pure, Result.andThen_ok]
  simp [invoke, callFunc, hf, h1, hb, mark]
theorem two_args {x y : Operand} {u v : Value} (hx : a.eval x = u) (hy : a.eval y = v) : #[x, y].map a.eval = #[u, v] := by simp [hx, hy]
theorem one_arg {x : Operand} {u : Value} (hx : a.eval x = u) : #[x].map a.eval = #[u] := by simp [hx]
theorem pair_at {cur : Array Value} {i : Nat} {u v : Value} (h0 : cur[i]? = some u) (h1 : cur[i + 1]? = some v) : ∀ (j : Nat) (z : Value), (#[u, v] : Array Value)[j]? = some z → cur[i + j]? = some z := by
  intro j z hz
  match j, hz with
  | 0, hz => obtain rfl := Option.some.inj hz; exact h0
  | 1, hz => obtain rfl := Option.some.inj hz; exact h1
theorem add_at (g i j : Nat) : (⟨g, i, none⟩ : Addr).add j = ⟨g, i + j, none⟩ := by unfold Addr.add; split <;> simp_all
theorem gives_index (T : TypeId) (x ix : Operand) (ho : o.op = .indexAddr T x ix) (e : TypeId) (sz : Nat) (hT : P.underlying T = some (.slice e)) (hs : (P.info? e).map (·.size) = some sz) (g n c m : Nat) (hx : a.eval x = .slice (some ⟨g, 0, none⟩) n c) (hi : a.eval ix = .int .i64 (m : Int)) (hm : m < n)
    (h : R (.pointer (some ⟨g, m * sz, none⟩)) w) : gives P o a w R := by
  obtain ⟨i0, hi0, hi1⟩ := Option.map_eq_some_iff.1 hs
  unfold gives execOp
  have h1 : (0 : Int) ≤ (m : Int) ∧ (m : Int) < (n : Int) := by omega
  simp [ho, hx, hi, Instr.indexAt, asIntOf, Sem.run_bind, run_underlying hT, sizeOf, typeInfo, hi0, hi1, hm]
  rw [add_at, Nat.zero_add]
  exact h
/-- A row of the same cells, from a place on. -/
theorem run_load_mid (w : World) (g i : Nat) (t ty : TypeId) (cur cs : Array Value) (fr : Nat × Nat) (d : TypeDesc) (hg : w.heap[g]? = some (.cells cur t fr)) (hc : ∀ (j : Nat) (u : Value), cs[j]? = some u → cur[i + j]? = some u)
    (hu : P.underlying ty = some d) (hd : (match d with | .struct _ | .array _ _ => true | _ => false) = true) (hi : (P.info? ty).map (·.size) = some cs.size) : (loadVar ty ⟨g, i, none⟩).run P w = .ok (.agg cs) w := by
  have hl : (loadCells ⟨g, i, none⟩ cs.toList.length).run P w = .ok cs.toList.toArray w :=
    run_loadCells_list (P := P) w ⟨g, i, none⟩ cs.toList (fun j v hv => by
      rw [add_at, cell_of_row w g (i + j) cur t fr hg]
      exact hc j v (by simpa using hv))
  obtain ⟨i0, hi0, hi1⟩ := Option.map_eq_some_iff.1 hi
  have hagg : (isAgg ty).run P w = .ok true w := by
    unfold isAgg
    rw [Sem.run_bind, run_underlying hu w]
    cases d <;> simp_all
  simp only [Array.length_toList, Array.toArray_toList] at hl
  simp [loadVar, Sem.run_bind, hagg, sizeOf, typeInfo, hi0, hi1, hl]
theorem gives_load_mid (ty : TypeId) (x : Operand) (ho : o.op = .load ty x) (g i : Nat) (hx : a.eval x = .pointer (some ⟨g, i, none⟩)) (t : TypeId) (cur cs : Array Value) (fr : Nat × Nat) (d : TypeDesc) (hg : w.heap[g]? = some (.cells cur t fr)) (hc : ∀ (j : Nat) (u : Value), cs[j]? = some u → cur[i + j]? = some u)
    (hu : P.underlying ty = some d) (hd : (match d with | .struct _ | .array _ _ => true | _ => false) = true) (hi : (P.info? ty).map (·.size) = some cs.size) (h : R (.agg cs) w) : gives P o a w R := by
  unfold gives execOp
  simp only [ho, hx, Instr.loadAt, Instr.sureAddr, Sem.run_bind, Sem.run_pure, Result.andThen_ok, run_load_mid w g i t ty cur cs fr d hg hc hu hd hi]
  exact h
theorem gives_extract (x : Operand) (i : Nat) (ho : o.op = .extract x i) (vs : Array Value) (v : Value) (hx : a.eval x = .tuple vs) (hv : vs[i]? = some v) (h : R v w) : gives P o a w R := by
  unfold gives execOp
  simp only [ho, hx, Instr.extract, hv, Sem.run_bind, Sem.run_pure, Result.andThen_ok]
  exact h
/-- What came is what was to come. -/
def Told (val : Nat → Value) (m : Nat) (θ : Nat → Value) (L : Nat → Bool) : Prop := ∀ i, i < m → L i = true → θ i = val i
theorem Told.step {val : Nat → Value} {m : Nat} {θ : Nat → Value} {L : Nat → Bool} (h : Told val m θ L) {i : Nat} {v : Value} (hv : i < m → v = val i) : Told val m (updV θ i v) (updL L i) := by
  intro j hj hl
  by_cases hji : j = i
  · subst hji; rw [updV_same]; exact hv hj
  · rw [updV_ne _ _ hji]; rw [updL_ne _ hji] at hl; exact h j hj hl
/-- A region in which, beside what only reads and calls, a block is made (operation ia) and a row stored into it (operation is): 'x, ok := f(..)'. -/
def BoxC (w : World) (Rs : List (Nat × Obj)) (val : Nat → Value) (n ia is : Nat) (t : TypeId) (zs cs : Array Value) (θ : Nat → Value) (L : Nat → Bool) (W : World) : Prop :=
  Told val n θ L ∧ Sees w W Rs ∧ (L ia = true → ∃ b, θ ia = .pointer (some ⟨b, 0, none⟩) ∧ w.heap.size ≤ b ∧ (∀ q ∈ Rs, q.1 ≠ b) ∧ W.heap[b]? = some (.cells (if L is = true then cs else zs) t (0, 0)))
section
variable {w W W' : World} {Rs : List (Nat × Obj)} {val : Nat → Value} {n ia is : Nat} {t : TypeId} {zs cs : Array Value} {θ : Nat → Value} {L : Nat → Bool}
theorem BoxC.keep (h : BoxC w Rs val n ia is t zs cs θ L W) {i : Nat} (hia : i ≠ ia) (his : i ≠ is) {v : Value} (hv : i < n → v = val i) (hb : Below W.heap.size W W') : BoxC w Rs val n ia is t zs cs (updV θ i v) (updL L i) W' := by
  obtain ⟨h1, h2, h3⟩ := h
  refine ⟨h1.step hv, h2.step hb, fun hl => ?_⟩
  rw [updL_ne _ (fun e => hia e.symm)] at hl
  obtain ⟨b, e, hw, hq, hr⟩ := h3 hl
  rw [updV_ne _ _ (fun e => hia e.symm), updL_ne _ (fun e => his e.symm)]
  exact ⟨b, e, hw, hq, (hb.block b (Array.getElem?_eq_some_iff.1 hr).1).trans hr⟩
theorem BoxC.alloc (h : BoxC w Rs val n ia is t zs cs θ L W) (hls : L is = false) (hn : n ≤ ia) (hne : is ≠ ia) : BoxC w Rs val n ia is t zs cs (updV θ ia (.pointer (some ⟨W.heap.size, 0, none⟩))) (updL L ia) (W.alloc (.cells zs t)) := by
  obtain ⟨h1, h2, h3⟩ := h
  refine ⟨h1.step (fun h => absurd h (by omega)), h2.fresh _, fun _ => ⟨W.heap.size, updV_same _ _ _, h2.below.size, fun q hq => Nat.ne_of_lt (h2.lt hq), ?_⟩⟩
  rw [updL_ne _ hne, hls]
  exact heap_alloc_new _ _
theorem BoxC.row (h : BoxC w Rs val n ia is t zs cs θ L W) (hla : L ia = true) (hls : L is = false) : ∃ b, θ ia = .pointer (some ⟨b, 0, none⟩) ∧ W.heap[b]? = some (.cells zs t (0, 0)) ∧
    ∀ (W' : World) (v : Value), is ≠ ia → n ≤ is → W'.heap[b]? = some (.cells cs t (0, 0)) → (∀ k, k ≠ b → W'.heap[k]? = W.heap[k]?) → Below b W W' → BoxC w Rs val n ia is t zs cs (updV θ is v) (updL L is) W' := by
  obtain ⟨h1, h2, h3⟩ := h
  obtain ⟨b, e, hw, hq, hr⟩ := h3 hla
  rw [hls] at hr
  refine ⟨b, e, hr, fun W' v hne hn hg ho hb => ⟨h1.step (fun h => absurd h (by omega)), ⟨h2.below.trans (hb.mono hw), fun p hp => ⟨(h2.rows p hp).1, (ho p.1 (hq p hp)).trans (h2.rows p hp).2⟩⟩, fun hl => ⟨b, ?_, hw, hq, ?_⟩⟩⟩
  · rw [updV_ne _ _ (fun e => hne e.symm)]; exact e
  · rw [updL_same]; exact hg
theorem BoxC.done (h : BoxC w Rs val n ia is t zs cs θ L W) (hla : L ia = true) (hls : L is = true) : ∃ b, θ ia = .pointer (some ⟨b, 0, none⟩) ∧ (∀ q ∈ Rs, q.1 ≠ b) ∧ Sees w W (Rs ++ [(b, .cells cs t (0, 0))]) := by
  obtain ⟨h1, h2, h3⟩ := h
  obtain ⟨b, e, hw, hq, hr⟩ := h3 hla
  rw [hls] at hr
  exact ⟨b, e, hq, h2.add hw hr⟩
end
end
end Go.Proofs.YtffcpmohanhihaaGreatDoor
namespace Go.Proofs.YtffcpmohanhihaaGreatDoor
open Go.RowKit
set_option linter.unusedVariables false
def regIn (k : Nat) : Code → Option (Array Oper)
  | .region id ops _ => if id == k then some ops else none
  | .seq a b => (regIn k a).or (regIn k b)
  | .cond _ a b => (regIn k a).or (regIn k b)
  | .block _ b => regIn k b
  | .loop b => regIn k b
  | .scope b => regIn k b
  | .rangeFunc _ _ a b => (regIn k a).or (regIn k b)
  | _ => none
def regOf (f : Func) (k : Nat) : Array Oper := ((f.body.bind (regIn k)).getD #[])
def opAt (ops : Array Oper) (i : Nat) : Option Op := (ops[i]?).map (·.op)
def plainAt (ops : Array Oper) (i : Nat) : Bool := match ops[i]? with | some o => o.guard.isNone | none => false
theorem op_of {ops : Array Oper} {i : Nat} {o : Oper} (ho : ops[i]? = some o) {p : Op} (h : opAt ops i = some p) : o.op = p := by
  simpa [opAt, ho] using h
theorem want_of {ops : Array Oper} {i : Nat} {o : Oper} (ho : ops[i]? = some o) (h : plainAt ops i = true) (y : Nat → Option Bool) : Region.wanted o y = true := by
  simp only [plainAt, ho] at h
  obtain ⟨d, p, ty, ps, af, g⟩ := o
  simp only [Option.isNone_iff_eq_none] at h
  subst h
  rfl
theorem wp_region_of {P : Program} {Q : Exit → Act → World → Prop} {id : Nat} {ops ops' : Array Oper} {d : Bool} {a : Act} {w : World} (h : ops = ops') (hw : (Code.region id ops' d).wp P Q a w) : (Code.region id ops d).wp P Q a w := h ▸ hw
end Go.Proofs.YtffcpmohanhihaaGreatDoor
