/-
  What a walk knows of the blocks that the call made: 'Sees'. No condition.
  Elements of rows that are known, read and written. No condition.
-/
import Derived.Test.YteplcnpmdjdlkaaGreatDoorJ2
namespace Go.Proofs.YteplcnpmdjdlkaaGreatDoor
open Go.RowKit
/-- Of what was there when the call began nothing has turned; these blocks are known. -/
structure Sees (w0 W : World) (L : List (Nat × Obj)) : Prop where
  below : Below w0.heap.size w0 W
  rows : ∀ p ∈ L, w0.heap.size ≤ p.1 ∧ W.heap[p.1]? = some p.2
namespace Sees
variable {w0 W W' : World} {L : List (Nat × Obj)} {b : Nat} {o : Obj}
theorem start (w : World) : Sees w w [] := ⟨Below.refl _ _, fun p hp => by cases hp⟩
theorem step (h : Sees w0 W L) (hb : Below W.heap.size W W') : Sees w0 W' L :=
  ⟨below_then h.below h.below.size hb, fun p hp => ⟨(h.rows p hp).1, (hb.block p.1 (Array.getElem?_eq_some_iff.1 (h.rows p hp).2).1).trans (h.rows p hp).2⟩⟩
theorem alloc (h : Sees w0 W L) (o : Obj) : Sees w0 (W.alloc o) (L ++ [(W.heap.size, o)]) :=
  ⟨h.below.alloc h.below.size o, fun p hp => by
    rcases List.mem_append.1 hp with hp | hp
    · exact ⟨(h.rows p hp).1, (Below.heap_alloc _ _ _ (Array.getElem?_eq_some_iff.1 (h.rows p hp).2).1).trans (h.rows p hp).2⟩
    · obtain rfl := List.mem_singleton.1 hp
      exact ⟨h.below.size, heap_alloc_new _ _⟩⟩
theorem fresh (h : Sees w0 W L) (o : Obj) : Sees w0 (W.alloc o) L := h.step (Below.alloc (Below.refl _ _) (Nat.le_refl _) o)
/-- A block just made, a row stored into it. -/
theorem box {z : Obj} (h : Sees w0 W L) (ho : ∀ k, k ≠ W.heap.size → W'.heap[k]? = (W.alloc z).heap[k]?) (hb : Below W.heap.size (W.alloc z) W') (hn : W'.heap[W.heap.size]? = some o) : Sees w0 W' (L ++ [(W.heap.size, o)]) :=
  ⟨(h.below.alloc h.below.size z).trans (hb.mono h.below.size), fun p hp => by
    rcases List.mem_append.1 hp with hp | hp
    · have hlt := (Array.getElem?_eq_some_iff.1 (h.rows p hp).2).1
      exact ⟨(h.rows p hp).1, (ho p.1 (by omega)).trans ((Below.heap_alloc _ _ _ hlt).trans (h.rows p hp).2)⟩
    · obtain rfl := List.mem_singleton.1 hp
      exact ⟨h.below.size, hn⟩⟩
theorem get (h : Sees w0 W L) (p : Nat × Obj) (hp : p ∈ L) : W.heap[p.1]? = some p.2 := (h.rows p hp).2
theorem g0 {p : Nat × Obj} (h : Sees w0 W (p :: L)) : W.heap[p.1]? = some p.2 := h.get p (by simp)
theorem g1 {p q : Nat × Obj} (h : Sees w0 W (p :: q :: L)) : W.heap[q.1]? = some q.2 := h.get q (by simp)
theorem g2 {p q r : Nat × Obj} (h : Sees w0 W (p :: q :: r :: L)) : W.heap[r.1]? = some r.2 := h.get r (by simp)
theorem g3 {p q r s : Nat × Obj} (h : Sees w0 W (p :: q :: r :: s :: L)) : W.heap[s.1]? = some s.2 := h.get s (by simp)
theorem g4 {p q r s t : Nat × Obj} (h : Sees w0 W (p :: q :: r :: s :: t :: L)) : W.heap[t.1]? = some t.2 := h.get t (by simp)
theorem lt {p : Nat × Obj} (h : Sees w0 W L) (hp : p ∈ L) : p.1 < W.heap.size := (Array.getElem?_eq_some_iff.1 (h.rows p hp).2).1
/-- A block that is known and written, the others as they were. -/
theorem set {L1 L2 : List (Nat × Obj)} {o' : Obj} (h : Sees w0 W (L1 ++ (b, o) :: L2)) (hne : ∀ p ∈ L1 ++ L2, p.1 ≠ b) (ho : ∀ k, k ≠ b → W'.heap[k]? = W.heap[k]?) (hb : Below b W W') (hn : W'.heap[b]? = some o') : Sees w0 W' (L1 ++ (b, o') :: L2) :=
  ⟨h.below.trans (hb.mono (h.rows (b, o) (by simp)).1), fun p hp => by
    rcases List.mem_append.1 hp with hp | hp
    · have h1 := h.rows p (by simp [hp])
      exact ⟨h1.1, (ho p.1 (hne p (by simp [hp]))).trans h1.2⟩
    · rcases List.mem_cons.1 hp with rfl | hp
      · exact ⟨(h.rows (b, o) (by simp)).1, hn⟩
      · have h1 := h.rows p (by simp [hp])
        exact ⟨h1.1, (ho p.1 (hne p (by simp [hp]))).trans h1.2⟩⟩
/-- A block from the beginning on, known by another way. -/
theorem add (h : Sees w0 W L) (hb : w0.heap.size ≤ b) (hn : W.heap[b]? = some o) : Sees w0 W (L ++ [(b, o)]) :=
  ⟨h.below, fun p hp => by
    rcases List.mem_append.1 hp with hp | hp
    · exact h.rows p hp
    · obtain rfl := List.mem_singleton.1 hp
      exact ⟨hb, hn⟩⟩
end Sees
/-- A slice of the call's own that isn't empty: its block. -/
theorem own_block {w : World} {base : Nat} {e : TypeId} {size n : Nat} {v : Value} {xs : List Value} (h : w.ownsRow base e size v n xs) (hn : 0 < n) :
    ∃ g cap cur, v = .slice (some ⟨g, 0, none⟩) n cap ∧ base ≤ g ∧ n ≤ cap ∧ cap ≤ maxLen ∧ w.heap[g]? = some (.cells cur e (0, 0)) ∧ ∀ (j : Nat) (u : Value), xs[j]? = some u → cur[j]? = some u := by
  rcases h.2 with ⟨_, h0⟩ | ⟨g, cap, cur, rfl, hb, hh, h1, h2, h3, h4⟩
  · omega
  · refine ⟨g, cap, cur, rfl, hb, h1, h2, hh, fun j u hu => ?_⟩
    have h5 : (cur.toList.take xs.length)[j]? = some u := by
      have h6 : cur.toList.take (n * size) = xs := by simpa using h4
      rw [h.1, h6]; exact hu
    have hj : j < xs.length := (List.getElem?_eq_some_iff.1 hu).1
    rw [List.getElem?_take, if_pos hj] at h5
    simpa using h5
end Go.Proofs.YteplcnpmdjdlkaaGreatDoor
namespace Go.Proofs.YteplcnpmdjdlkaaGreatDoor
open Go.RowKit
set_option linter.unusedVariables false
set_option linter.unusedSimpArgs false
section
variable {P : Program} {ops : Array Oper} {rest : List Oper} {o : Oper} {a : Act} {w : World} {Q : Exit → Act → World → Prop}
theorem row_setCell {w : World} {g i : Nat} {cs : Array Value} {t : TypeId} (v : Value) (hg : w.heap[g]? = some (.cells cs t (0, 0))) : (w.setCell ⟨g, i, none⟩ v).heap[g]? = some (.cells (cs.setIfInBounds i v) t (0, 0)) ∧ (∀ k, k ≠ g → (w.setCell ⟨g, i, none⟩ v).heap[k]? = w.heap[k]?) ∧ Below g w (w.setCell ⟨g, i, none⟩ v) ∧ (w.setCell ⟨g, i, none⟩ v).heap.size = w.heap.size :=
  ⟨heap_setCell_same _ _ _ _ _ _ hg, fun k hk => heap_setCell_other _ _ _ _ hk, (Below.refl g w).setCell (p := ⟨g, i, none⟩) (Nat.le_refl g) v, by simp [World.setCell]⟩
theorem run_store_elem (w : World) (g i : Nat) (t ty : TypeId) (cs : Array Value) (u v : Value) (h1 : v.oneCell' = true) (hg : w.heap[g]? = some (.cells cs t (0, 0))) (hc : cs[i]? = some u) (hi : (P.info? ty).map (·.size) = some 1) :
    (storeVar ty ⟨g, i, none⟩ v).run P w = .ok () (w.setCell ⟨g, i, none⟩ v) := by
  have hcell : w.cell? ⟨g, i, none⟩ = some u := by rw [cell_of_row w g i cs t (0, 0) hg]; exact hc
  have hfr : w.frozen? ⟨g, i, none⟩ = false := frozen_of_row w g i cs t hg
  obtain ⟨i0, hq, hs⟩ := Option.map_eq_some_iff.1 hi
  cases v <;> simp [Value.oneCell'] at h1 <;> simp [storeVar, sizeOf, typeInfo, hq, hs, Value.cells, storeCells, hcell, hfr, Addr.add, store, Sem.run]
/-- One cell of a row that is known, written. -/
theorem store_elem (hwt : Region.wanted o (yielded ops a.tmps) = true) (ty : TypeId) (x y : Operand) (ho : o.op = .store ty x y)
    (g i : Nat) (v : Value) (hx : a.eval x = .pointer (some ⟨g, i, none⟩)) (hy : a.eval y = v) (h1 : v.oneCell' = true) (t : TypeId) (cs : Array Value) (u : Value) (hg : w.heap[g]? = some (.cells cs t (0, 0))) (hc : cs[i]? = some u) (hi : (P.info? ty).map (·.size) = some 1)
    (h : ∀ w', w'.heap[g]? = some (.cells (cs.setIfInBounds i v) t (0, 0)) → (∀ k, k ≠ g → w'.heap[k]? = w.heap[k]?) → Below g w w' → w'.heap.size = w.heap.size → wpList P ops Q rest (a.put o.dst undef) w') : wpList P ops Q (o :: rest) a w :=
  BigFrame.wpList_want hwt fun K hK => by
    obtain ⟨r1, r2, r3, r4⟩ := row_setCell (i := i) v hg
    unfold Oper.wp execOp
    simp only [ho, hx, hy, Instr.storeAt, Instr.sureAddr, Sem.run_bind, Sem.run_pure, Result.andThen_ok, run_store_elem w g i t ty cs u v h1 hg hc hi]
    exact hK _ _ (h _ r1 r2 r3 r4)
theorem run_load_elem (w : World) (g i : Nat) (t ty : TypeId) (cs : Array Value) (fr : Nat × Nat) (u : Value) (d : TypeDesc) (hg : w.heap[g]? = some (.cells cs t fr)) (hc : cs[i]? = some u) (hu : P.underlying ty = some d) (hd : (match d with | .struct _ | .array _ _ => false | _ => true) = true) :
    (loadVar ty ⟨g, i, none⟩).run P w = .ok u w := by
  have hcell : w.cell? ⟨g, i, none⟩ = some u := by rw [cell_of_row w g i cs t fr hg]; exact hc
  have hagg : (isAgg ty).run P w = .ok false w := by
    unfold isAgg
    rw [Sem.run_bind, run_underlying hu w]
    cases d <;> simp_all
  simp [loadVar, Sem.run_bind, hagg, hcell]
/-- One cell of a row that is known, read. -/
theorem load_elem (hwt : Region.wanted o (yielded ops a.tmps) = true) (ty : TypeId) (x : Operand) (ho : o.op = .load ty x)
    (g i : Nat) (hx : a.eval x = .pointer (some ⟨g, i, none⟩)) (t : TypeId) (cs : Array Value) (fr : Nat × Nat) (u : Value) (d : TypeDesc) (hg : w.heap[g]? = some (.cells cs t fr)) (hc : cs[i]? = some u) (hu : P.underlying ty = some d) (hd : (match d with | .struct _ | .array _ _ => false | _ => true) = true)
    (h : wpList P ops Q rest (a.put o.dst u) w) : wpList P ops Q (o :: rest) a w :=
  BigFrame.wpList_want hwt fun K hK => by
    unfold Oper.wp execOp
    simp only [ho, hx, Instr.loadAt, Instr.sureAddr, Sem.run_bind, Sem.run_pure, Result.andThen_ok, run_load_elem w g i t ty cs fr u d hg hc hu hd]
    exact hK _ _ h
/-- .. in a region whose order is open. -/
theorem quiet_load_elem {C : World → Prop} {K : Act → Prop} (ty : TypeId) (x : Operand) (ho : o.op = .load ty x)
    (g i : Nat) (hx : a.eval x = .pointer (some ⟨g, i, none⟩)) (t : TypeId) (cs : Array Value) (fr : Nat × Nat) (u : Value) (d : TypeDesc) (hg : ∀ w, C w → w.heap[g]? = some (.cells cs t fr)) (hc : cs[i]? = some u) (hu : P.underlying ty = some d) (hd : (match d with | .struct _ | .array _ _ => false | _ => true) = true)
    (h : K (a.put o.dst u)) : o.quiet P a C K := by
  refine ⟨_, fun w hw => ?_, h⟩
  unfold Oper.quietAt execOp
  simp only [ho, hx, Instr.loadAt, Instr.sureAddr, Sem.run_bind, Sem.run_pure, Result.andThen_ok, run_load_elem w g i t ty cs fr u d (hg w hw) hc hu hd]
  exact ⟨rfl, rfl⟩
/-- A block made. -/
theorem Sees.one {w0 : World} {b : Nat} {ob ob' : Obj} {W' : World} (h : Sees w0 w [(b, ob)]) (ho : ∀ k, k ≠ b → W'.heap[k]? = w.heap[k]?) (hb : Below b w W') (hn : W'.heap[b]? = some ob') : Sees w0 W' [(b, ob')] :=
  Sees.set (L1 := []) (L2 := []) h (fun p hp => by cases hp) ho hb hn
end
end Go.Proofs.YteplcnpmdjdlkaaGreatDoor
