/-
  The words that the walks of this seat share: small facts of worlds and rows, vectors as lists of whole numbers. No condition.
  What a walk knows of the blocks that the call made: 'Sees'. No condition.
  Elements of rows that are known, read and written. No condition.
  What a walk knows of blocks that the call made, each apart from the others: 'Boxes'. No condition.
-/
import Derived.Test.YtnapebgkcjnnbaaGreatDoorProg
import Derived.WalkKit
import Derived.WalkSpells
import Derived.WalkLawsBesides
import Derived.Laws.Rows
import Derived.Lib.QuietBelow
import Derived.Lib.Hide
import Derived.BigQuiet
namespace Go.Proofs.YtnapebgkcjnnbaaGreatDoor
open Go.RowKit

theorem ret_int {k : IntKind} {a b : Int} (h : a = b) : Ending.returned (.int k a) = .returned (.int k b) := by rw [h]
theorem ret_bool {a b : Bool} (h : a = b) : Ending.returned (.bool a) = .returned (.bool b) := by rw [h]
theorem bcell {w w1 : World} {B : Nat} (hb : Below B w w1) : (∀ b o, b < B → w1.cell? ⟨b, o, none⟩ = w.cell? ⟨b, o, none⟩) ∧ (∀ b o, b < B → w1.frozen? ⟨b, o, none⟩ = w.frozen? ⟨b, o, none⟩) :=
  ⟨fun b o h => hb.cell (p := ⟨b, o, none⟩) h, fun b o h => hb.frozen (p := ⟨b, o, none⟩) h⟩
theorem below_then {B : Nat} {w w1 w2 : World} (h : Below B w w1) (hB : B ≤ w1.heap.size) (k : Below w1.heap.size w1 w2) : Below B w w2 := h.trans (k.mono hB)
theorem below_alloc {w W : World} (h : Below w.heap.size w W) (o : Obj) : Below w.heap.size w (W.alloc o) := h.alloc h.size o
/-- A whole row stored into a block that is known. -/
theorem wpList_store_row {P : Program} {ops : Array Oper} {rest : List Oper} {o : Oper} {a : Act} {w : World} {Q : Exit → Act → World → Prop} (hwt : Region.wanted o (yielded ops a.tmps) = true) (ty : TypeId) (x y : Operand) (ho : o.op = .store ty x y)
    (g : Nat) (cells : Array Value) (hx : a.eval x = .pointer (some ⟨g, 0, none⟩)) (hy : a.eval y = .agg cells)
    (t : TypeId) (old : Array Value) (hg : w.heap[g]? = some (.cells old t (0, 0))) (hi : (P.info? ty).map (·.size) = some cells.size)
    (hold : old.size = cells.size) (h1 : cells.all (·.oneCell') = true)
    (h : ∀ w', Below g w w' → w'.heap[g]? = some (.cells cells t (0, 0)) → (∀ k, k ≠ g → w'.heap[k]? = w.heap[k]?) → w'.heap.size = w.heap.size → wpList P ops Q rest (a.put o.dst undef) w') : wpList P ops Q (o :: rest) a w :=
  BigFrame.wpList_want hwt fun _ hK => wp_store_row ty x y ho g cells hx hy t old hg hi hold h1 (hK _ _ (h _ ⟨rfl, rfl, rfl, by simp, fun k hk => setRow_other _ _ _ _ (by omega)⟩ (setRow_heap _ _ _ _ _ _ hg) (fun k hk => setRow_other _ _ _ _ (by omega)) (by simp)))
/-- A whole row read out of a block that is known. -/
theorem wpList_load_row' {P : Program} {ops : Array Oper} {rest : List Oper} {o : Oper} {a : Act} {w : World} {Q : Exit → Act → World → Prop} (hwt : Region.wanted o (yielded ops a.tmps) = true) (ty : TypeId) (x : Operand) (ho : o.op = .load ty x)
    (g : Nat) (hx : a.eval x = .pointer (some ⟨g, 0, none⟩)) (t : TypeId) (cs : Array Value) (fr : Nat × Nat) (d : TypeDesc) (hg : w.heap[g]? = some (.cells cs t fr))
    (hu : P.underlying ty = some d) (hd : (match d with | .struct _ | .array _ _ => true | _ => false) = true) (hi : (P.info? ty).map (·.size) = some cs.size)
    (h : wpList P ops Q rest (a.put o.dst (.agg cs)) w) : wpList P ops Q (o :: rest) a w :=
  BigFrame.wpList_want hwt fun _ hK => wp_load_row ty x ho g hx t cs fr d hg hu hd hi (hK _ _ h)
/-- A row read in a region whose order is open. -/
theorem quiet_load_row {P : Program} {C : World → Prop} {o : Oper} {a : Act} {K : Act → Prop} (ty : TypeId) (x : Operand) (ho : o.op = .load ty x)
    (g : Nat) (hx : a.eval x = .pointer (some ⟨g, 0, none⟩)) (t : TypeId) (cs : Array Value) (fr : Nat × Nat) (d : TypeDesc) (hg : ∀ w, C w → w.heap[g]? = some (.cells cs t fr))
    (hu : P.underlying ty = some d) (hd : (match d with | .struct _ | .array _ _ => true | _ => false) = true) (hi : (P.info? ty).map (·.size) = some cs.size)
    (h : K (a.put o.dst (.agg cs))) : o.quiet P a C K := by
  refine ⟨_, fun w hw => ?_, h⟩
  unfold Oper.quietAt execOp
  simp only [ho, hx, Instr.loadAt, Instr.sureAddr, Sem.run_bind, Sem.run_pure, Result.andThen_ok, run_loadVar_row w g t ty cs fr d (hg w hw) hu hd hi]
  exact ⟨rfl, rfl⟩
/-- A call in a region whose order is open: its contract ends in 'Below'. -/
theorem grown_calls {P : Program} {f : FuncId} {args : Array Value} {w : World} {v : Value} (h : ∀ W, Below w.heap.size w W → Calls P f args W fun e w' => e = .returned v ∧ Below W.heap.size W w') (d : Nat) (os : Array Obj) :
    Calls P f args (Go.Sort.grow (redrawn w d) os) fun e w'' => e = .returned v ∧ ∃ p : Regrown, w'' = Go.Sort.grow (redrawn w p.d) p.os := Calls.regrown_of (h _ (below_regrown w d os))
theorem row_regrown {w : World} {b : Nat} {o : Obj} (h : w.heap[b]? = some o) (W : World) (hW : ∃ p : Regrown, W = Go.Sort.grow (redrawn w p.d) p.os) : W.heap[b]? = some o := by
  obtain ⟨p, rfl⟩ := hW
  rw [(below_regrown w p.d p.os).block b (Array.getElem?_eq_some_iff.1 h).1]
  exact h

theorem heap3_0 (w : World) (A B C : Obj) : (((w.alloc A).alloc B).alloc C).heap[w.heap.size]? = some A := by
  rw [Below.heap_alloc _ _ _ (by simp; omega)]; exact heap_alloc2_old _ _ _
theorem heap3_1 (w : World) (A B C : Obj) : (((w.alloc A).alloc B).alloc C).heap[w.heap.size + 1]? = some B := by
  rw [Below.heap_alloc _ _ _ (by simp)]; exact heap_alloc2_new _ _ _
theorem heap3_2 (w : World) (A B C : Obj) : (((w.alloc A).alloc B).alloc C).heap[w.heap.size + 2]? = some C := by
  have h := heap_alloc_new ((w.alloc A).alloc B) C
  simpa using h

theorem own_base {w : World} {base : Nat} {e : TypeId} {size n : Nat} {v : Value} {xs : List Value} (h : w.ownsRow base e size v n xs) (k : Nat) (hk : v.ownBlock = some k) : base ≤ k ∧ k < w.heap.size := by
  rcases h.2 with ⟨rfl, _⟩ | ⟨g, cap, cur, rfl, hb, hh, _⟩
  · simp [Value.ownBlock] at hk
  · have : g = k := by simpa [Value.ownBlock] using hk
    subst this
    exact ⟨hb, (Array.getElem?_eq_some_iff.1 hh).1⟩
theorem own_nil (W : World) (base : Nat) (e : TypeId) (size : Nat) : W.ownsRow base e size (.slice none 0 0) 0 [] := ⟨by simp, .inl ⟨rfl, rfl⟩⟩
/-- What is owned stays so, where its block stays. -/
theorem own_move {w w1 : World} {base : Nat} {e : TypeId} {size n : Nat} {v : Value} {xs : List Value} (h : w.ownsRow base e size v n xs) (hm : ∀ k, v.ownBlock = some k → w1.heap[k]? = w.heap[k]?) : w1.ownsRow base e size v n xs := by
  obtain ⟨h1, h2⟩ := h
  refine ⟨h1, ?_⟩
  rcases h2 with h2 | ⟨g, cap, cur, rfl, hg, hh, r⟩
  · exact .inl h2
  · exact .inr ⟨g, cap, cur, rfl, hg, (hm g (by simp [Value.ownBlock])).trans hh, r⟩
theorem own_below {w w1 : World} {base : Nat} {e : TypeId} {size n : Nat} {v : Value} {xs : List Value} (h : w.ownsRow base e size v n xs) (hb : Below w.heap.size w w1) : w1.ownsRow base e size v n xs :=
  own_move h fun k hk => hb.block k (own_base h k hk).2
/-- append(v, x): one element, of whatever cells, onto a slice of the call's own; the element lies in the block made last. -/
theorem append_one {P : Program} {ops : Array Oper} {rest : List Oper} {o : Oper} {a : Act} {w : World} {Q : Exit → Act → World → Prop} (hgd : o.guard = none) (s x : Operand) (t e : TypeId)
    (ho : o.op = .call { callee := .builtin .append, args := #[s, x], argTypes := #[t, t] })
    (base : Nat) (z : Value) (size bytes : Nat) (ht : P.underlying t = some (.slice e)) (hinfo : (P.info? e).map (fun i => (i.zero, i.size, i.bytes)) = some (some z, size, bytes)) (hzs : z.cells.size = size) (hsz : 0 < size) (hb0 : 0 < bytes)
    (v : Value) (n : Nat) (xs : List Value) (hs : a.eval s = v) (hown : w.ownsRow base e size v n xs) (cs : Array Value) (hcs : cs.size = size) (h1 : cs.toList.all (·.oneCell') = true)
    (hx : a.eval x = .slice (some ⟨w.heap.size, 0, none⟩) 1 1) (hbytes : (n + 1) * bytes ≤ 140737488355328) (hbase : base ≤ w.heap.size)
    (h : ∀ v' w', w'.ownsRow base e size v' (n + 1) (xs ++ cs.toList) → (∀ k, k < w.heap.size → v.ownBlock ≠ some k → w'.heap[k]? = w.heap[k]?) → Below base w w' → wpList P ops Q rest (a.put o.dst v') w') : wpList P ops Q (o :: rest) a (w.alloc (.cells cs e)) := by
  obtain ⟨i0, hi, hzz⟩ := Option.map_eq_some_iff.1 hinfo
  simp only [Prod.mk.injEq] at hzz
  obtain ⟨hz0, hz1, hz2⟩ := hzz
  have hlen : n + 1 ≤ 140737488355328 := Nat.le_trans (Nat.le_mul_of_pos_right _ hb0) hbytes
  refine wpList_append_own (w.alloc (.cells cs e)) hgd s x t ho base e i0 z size bytes ht hi hz0 hz1 hz2 hzs hsz v n xs hs (hown.alloc _) ⟨w.heap.size, 0, none⟩ 1 1 cs.toList hx (by simp [hcs])
    (fun j u hu => by
      have hadd : (⟨w.heap.size, 0, none⟩ : Addr).add j = ⟨w.heap.size, j, none⟩ := by unfold Addr.add; split <;> simp_all
      rw [hadd, cell_of_row _ w.heap.size j cs e (0, 0) (heap_alloc_new w _)]
      simpa using hu)
    (fun u hu => (List.all_eq_true.1 h1) u hu) (by simp only [maxLen]; omega) hbytes (by simp; omega) ?_
  intro v' w' hown' hg _
  refine h v' w' hown' (fun k hk hne => ?_) ⟨hg.os, hg.tape, hg.output, Nat.le_trans (by simp) hg.size, fun k hk => ?_⟩
  · rw [hg.block k (by simp; omega) (fun e => hne e.symm), Below.heap_alloc _ _ _ hk]
  · rw [hg.block k (by simp; omega) (fun e => by have := (own_base hown k e.symm).1; omega), Below.heap_alloc _ _ _ (by omega)]

def vat (v : List Int) (i : Nat) : Int := v.getD i 0
def vcells (v : List Int) : Array Value := (v.map (Value.int .i64)).toArray
theorem vcells_get (v : List Int) (i : Nat) (h : i < v.length) : (vcells v)[i]? = some (.int .i64 (vat v i)) := by
  simp [vcells, vat, List.getElem?_eq_getElem h, List.getD_eq_getElem?_getD]
theorem vcells_size (v : List Int) : (vcells v).size = v.length := by simp [vcells]
theorem vcells_set (v : List Int) (k : Nat) (x : Int) : (vcells v).setIfInBounds k (.int .i64 x) = vcells (v.set k x) := by simp [vcells, List.map_set]
theorem vcells_one (v : List Int) : (vcells v).all (·.oneCell') = true := by simp [vcells, Value.oneCell']
theorem vat_set (v : List Int) (k i : Nat) (x : Int) (h : k < v.length) : vat (v.set k x) i = if i = k then x else vat v i := by
  unfold vat
  simp only [List.getD_eq_getElem?_getD, List.getElem?_set]
  by_cases hk : k = i
  · subst hk; simp [h]
  · rw [if_neg hk, if_neg (fun e => hk e.symm)]
theorem vat_ext {v u : List Int} (hl : v.length = u.length) (h : ∀ i, i < v.length → vat v i = vat u i) : v = u := by
  apply List.ext_getElem hl
  intro i h1 h2
  have := h i h1
  simpa [vat, List.getD_eq_getElem?_getD, List.getElem?_eq_getElem h1, List.getElem?_eq_getElem h2] using this
end Go.Proofs.YtnapebgkcjnnbaaGreatDoor
namespace Go.Proofs.YtnapebgkcjnnbaaGreatDoor
open Go.RowKit
/-- Of what was there when the call began nothing has turned; these blocks are known. -/
structure Sees (w0 W : World) (L : List (Nat × Obj)) : Prop where
  below : Below w0.heap.size w0 W
  rows : ∀ p ∈ L, w0.heap.size ≤ p.1 ∧ W.heap[p.1]? = some p.2
namespace Sees
variable {w0 W W' : World} {L : List (Nat × Obj)} {b : Nat} {o : Obj}
theorem start (w : World) : Sees w w [] := ⟨Below.refl _ _, fun p hp => by cases hp⟩
theorem step (h : Sees w0 W L) (hb : Below W.heap.size W W') : Sees w0 W' L :=
  ⟨below_then h.below h.below.size hb, fun p hp => ⟨(h.rows p hp).1, (hb.block p.1 (Array.getElem?_eq_some_iff.1 (h.rows p hp).2).1).trans (h.rows p hp).2⟩⟩
theorem alloc (h : Sees w0 W L) (o : Obj) : Sees w0 (W.alloc o) (L ++ [(W.heap.size, o)]) :=
  ⟨h.below.alloc h.below.size o, fun p hp => by
    rcases List.mem_append.1 hp with hp | hp
    · exact ⟨(h.rows p hp).1, (Below.heap_alloc _ _ _ (Array.getElem?_eq_some_iff.1 (h.rows p hp).2).1).trans (h.rows p hp).2⟩
    · obtain rfl := List.mem_singleton.1 hp
      exact ⟨h.below.size, heap_alloc_new _ _⟩⟩
theorem fresh (h : Sees w0 W L) (o : Obj) : Sees w0 (W.alloc o) L := h.step (Below.alloc (Below.refl _ _) (Nat.le_refl _) o)
/-- A block just made, a row stored into it. -/
theorem box {z : Obj} (h : Sees w0 W L) (ho : ∀ k, k ≠ W.heap.size → W'.heap[k]? = (W.alloc z).heap[k]?) (hb : Below W.heap.size (W.alloc z) W') (hn : W'.heap[W.heap.size]? = some o) : Sees w0 W' (L ++ [(W.heap.size, o)]) :=
  ⟨(h.below.alloc h.below.size z).trans (hb.mono h.below.size), fun p hp => by
    rcases List.mem_append.1 hp with hp | hp
    · have hlt := (Array.getElem?_eq_some_iff.1 (h.rows p hp).2).1
      exact ⟨(h.rows p hp).1, (ho p.1 (by omega)).trans ((Below.heap_alloc _ _ _ hlt).trans (h.rows p hp).2)⟩
    · obtain rfl := List.mem_singleton.1 hp
      exact ⟨h.below.size, hn⟩⟩
theorem get (h : Sees w0 W L) (p : Nat × Obj) (hp : p ∈ L) : W.heap[p.1]? = some p.2 := (h.rows p hp).2
theorem g0 {p : Nat × Obj} (h : Sees w0 W (p :: L)) : W.heap[p.1]? = some p.2 := h.get p (by simp)
theorem g1 {p q : Nat × Obj} (h : Sees w0 W (p :: q :: L)) : W.heap[q.1]? = some q.2 := h.get q (by simp)
theorem g2 {p q r : Nat × Obj} (h : Sees w0 W (p :: q :: r :: L)) : W.heap[r.1]? = some r.2 := h.get r (by simp)
theorem g3 {p q r s : Nat × Obj} (h : Sees w0 W (p :: q :: r :: s :: L)) : W.heap[s.1]? = some s.2 := h.get s (by simp)
theorem g4 {p q r s t : Nat × Obj} (h : Sees w0 W (p :: q :: r :: s :: t :: L)) : W.heap[t.1]? = some t.2 := h.get t (by simp)
theorem lt {p : Nat × Obj} (h : Sees w0 W L) (hp : p ∈ L) : p.1 < W.heap.size := (Array.getElem?_eq_some_iff.1 (h.rows p hp).2).1
/-- A block that is known and written, the others as they were. -/
theorem set {L1 L2 : List (Nat × Obj)} {o' : Obj} (h : Sees w0 W (L1 ++ (b, o) :: L2)) (hne : ∀ p ∈ L1 ++ L2, p.1 ≠ b) (ho : ∀ k, k ≠ b → W'.heap[k]? = W.heap[k]?) (hb : Below b W W') (hn : W'.heap[b]? = some o') : Sees w0 W' (L1 ++ (b, o') :: L2) :=
  ⟨h.below.trans (hb.mono (h.rows (b, o) (by simp)).1), fun p hp => by
    rcases List.mem_append.1 hp with hp | hp
    · have h1 := h.rows p (by simp [hp])
      exact ⟨h1.1, (ho p.1 (hne p (by simp [hp]))).trans h1.2⟩
    · rcases List.mem_cons.1 hp with rfl | hp
      · exact ⟨(h.rows (b, o) (by simp)).1, hn⟩
      · have h1 := h.rows p (by simp [hp])
        exact ⟨h1.1, (ho p.1 (hne p (by simp [hp]))).trans h1.2⟩⟩
/-- A block from the beginning on, known by another way. -/
theorem add (h : Sees w0 W L) (hb : w0.heap.size ≤ b) (hn : W.heap[b]? = some o) : Sees w0 W (L ++ [(b, o)]) :=
  ⟨h.below, fun p hp => by
    rcases List.mem_append.1 hp with hp | hp
    · exact h.rows p hp
    · obtain rfl := List.mem_singleton.1 hp
      exact ⟨hb, hn⟩⟩
end Sees
/-- A slice of the call's own that isn't empty: its block. -/
theorem own_block {w : World} {base : Nat} {e : TypeId} {size n : Nat} {v : Value} {xs : List Value} (h : w.ownsRow base e size v n xs) (hn : 0 < n) :
    ∃ g cap cur, v = .slice (some ⟨g, 0, none⟩) n cap ∧ base ≤ g ∧ n ≤ cap ∧ cap ≤ maxLen ∧ w.heap[g]? = some (.cells cur e (0, 0)) ∧ ∀ (j : Nat) (u : Value), xs[j]? = some u → cur[j]? = some u := by
  rcases h.2 with ⟨_, h0⟩ | ⟨g, cap, cur, rfl, hb, hh, h1, h2, h3, h4⟩
  · omega
  · refine ⟨g, cap, cur, rfl, hb, h1, h2, hh, fun j u hu => ?_⟩
    have h5 : (cur.toList.take xs.length)[j]? = some u := by
      have h6 : cur.toList.take (n * size) = xs := by simpa using h4
      rw [h.1, h6]; exact hu
    have hj : j < xs.length := (List.getElem?_eq_some_iff.1 hu).1
    rw [List.getElem?_take, if_pos hj] at h5
    simpa using h5
end Go.Proofs.YtnapebgkcjnnbaaGreatDoor
namespace Go.Proofs.YtnapebgkcjnnbaaGreatDoor
open Go.RowKit
set_option linter.unusedVariables false
set_option linter.unusedSimpArgs false
section
variable {P : Program} {ops : Array Oper} {rest : List Oper} {o : Oper} {a : Act} {w : World} {Q : Exit → Act → World → Prop}
theorem row_setCell {w : World} {g i : Nat} {cs : Array Value} {t : TypeId} (v : Value) (hg : w.heap[g]? = some (.cells cs t (0, 0))) : (w.setCell ⟨g, i, none⟩ v).heap[g]? = some (.cells (cs.setIfInBounds i v) t (0, 0)) ∧ (∀ k, k ≠ g → (w.setCell ⟨g, i, none⟩ v).heap[k]? = w.heap[k]?) ∧ Below g w (w.setCell ⟨g, i, none⟩ v) ∧ (w.setCell ⟨g, i, none⟩ v).heap.size = w.heap.size :=
  ⟨heap_setCell_same _ _ _ _ _ _ hg, fun k hk => heap_setCell_other _ _ _ _ hk, (Below.refl g w).setCell (p := ⟨g, i, none⟩) (Nat.le_refl g) v, by simp [World.setCell]⟩
theorem run_store_elem (w : World) (g i : Nat) (t ty : TypeId) (cs : Array Value) (u v : Value) (h1 : v.oneCell' = true) (hg : w.heap[g]? = some (.cells cs t (0, 0))) (hc : cs[i]? = some u) (hi : (P.info? ty).map (·.size) = some 1) :
    (storeVar ty ⟨g, i, none⟩ v).run P w = .ok () (w.setCell ⟨g, i, none⟩ v) := by
  have hcell : w.cell? ⟨g, i, none⟩ = some u := by rw [cell_of_row w g i cs t (0, 0) hg]; exact hc
  have hfr : w.frozen? ⟨g, i, none⟩ = false := frozen_of_row w g i cs t hg
  obtain ⟨i0, hq, hs⟩ := Option.map_eq_some_iff.1 hi
  cases v <;> simp [Value.oneCell'] at h1 <;> simp [storeVar, sizeOf, typeInfo, hq, hs, Value.cells, storeCells, hcell, hfr, Addr.add, store, Sem.run]
/-- One cell of a row that is known, written. -/
theorem store_elem (hwt : Region.wanted o (yielded ops a.tmps) = true) (ty : TypeId) (x y : Operand) (ho : o.op = .store ty x y)
    (g i : Nat) (v : Value) (hx : a.eval x = .pointer (some ⟨g, i, none⟩)) (hy : a.eval y = v) (h1 : v.oneCell' = true) (t : TypeId) (cs : Array Value) (u : Value) (hg : w.heap[g]? = some (.cells cs t (0, 0))) (hc : cs[i]? = some u) (hi : (P.info? ty).map (·.size) = some 1)
    (h : ∀ w', w'.heap[g]? = some (.cells (cs.setIfInBounds i v) t (0, 0)) → (∀ k, k ≠ g → w'.heap[k]? = w.heap[k]?) → Below g w w' → w'.heap.size = w.heap.size → wpList P ops Q rest (a.put o.dst undef) w') : wpList P ops Q (o :: rest) a w :=
  BigFrame.wpList_want hwt fun K hK => by
    obtain ⟨r1, r2, r3, r4⟩ := row_setCell (i := i) v hg
    unfold Oper.wp execOp
    simp only [ho, hx, hy, Instr.storeAt, Instr.sureAddr, Sem.run_bind, Sem.run_pure, Result.andThen_ok, run_store_elem w g i t ty cs u v h1 hg hc hi]
    exact hK _ _ (h _ r1 r2 r3 r4)
theorem run_load_elem (w : World) (g i : Nat) (t ty : TypeId) (cs : Array Value) (fr : Nat × Nat) (u : Value) (d : TypeDesc) (hg : w.heap[g]? = some (.cells cs t fr)) (hc : cs[i]? = some u) (hu : P.underlying ty = some d) (hd : (match d with | .struct _ | .array _ _ => false | _ => true) = true) :
    (loadVar ty ⟨g, i, none⟩).run P w = .ok u w := by
  have hcell : w.cell? ⟨g, i, none⟩ = some u := by rw [cell_of_row w g i cs t fr hg]; exact hc
  have hagg : (isAgg ty).run P w = .ok false w := by
    unfold isAgg
    rw [Sem.run_bind, run_underlying hu w]
    cases d <;> simp_all
  simp [loadVar, Sem.run_bind, hagg, hcell]
/-- One cell of a row that is known, read. -/
theorem load_elem (hwt : Region.wanted o (yielded ops a.tmps) = true) (ty : TypeId) (x : Operand) (ho : o.op = .load ty x)
    (g i : Nat) (hx : a.eval x = .pointer (some ⟨g, i, none⟩)) (t : TypeId) (cs : Array Value) (fr : Nat × Nat) (u : Value) (d : TypeDesc) (hg : w.heap[g]? = some (.cells cs t fr)) (hc : cs[i]? = some u) (hu : P.underlying ty = some d) (hd : (match d with | .struct _ | .array _ _ => false | _ => true) = true)
    (h : wpList P ops Q rest (a.put o.dst u) w) : wpList P ops Q (o :: rest) a w :=
  BigFrame.wpList_want hwt fun K hK => by
    unfold Oper.wp execOp
    simp only [ho, hx, Instr.loadAt, Instr.sureAddr, Sem.run_bind, Sem.run_pure, Result.andThen_ok, run_load_elem w g i t ty cs fr u d hg hc hu hd]
    exact hK _ _ h
/-- .. in a region whose order is open. -/
theorem quiet_load_elem {C : World → Prop} {K : Act → Prop} (ty : TypeId) (x : Operand) (ho : o.op = .load ty x)
    (g i : Nat) (hx : a.eval x = .pointer (some ⟨g, i, none⟩)) (t : TypeId) (cs : Array Value) (fr : Nat × Nat) (u : Value) (d : TypeDesc) (hg : ∀ w, C w → w.heap[g]? = some (.cells cs t fr)) (hc : cs[i]? = some u) (hu : P.underlying ty = some d) (hd : (match d with | .struct _ | .array _ _ => false | _ => true) = true)
    (h : K (a.put o.dst u)) : o.quiet P a C K := by
  refine ⟨_, fun w hw => ?_, h⟩
  unfold Oper.quietAt execOp
  simp only [ho, hx, Instr.loadAt, Instr.sureAddr, Sem.run_bind, Sem.run_pure, Result.andThen_ok, run_load_elem w g i t ty cs fr u d (hg w hw) hc hu hd]
  exact ⟨rfl, rfl⟩
/-- A block made. -/
theorem Sees.one {w0 : World} {b : Nat} {ob ob' : Obj} {W' : World} (h : Sees w0 w [(b, ob)]) (ho : ∀ k, k ≠ b → W'.heap[k]? = w.heap[k]?) (hb : Below b w W') (hn : W'.heap[b]? = some ob') : Sees w0 W' [(b, ob')] :=
  Sees.set (L1 := []) (L2 := []) h (fun p hp => by cases hp) ho hb hn
end
end Go.Proofs.YtnapebgkcjnnbaaGreatDoor
namespace Go.Proofs.YtnapebgkcjnnbaaGreatDoor
open Go.RowKit
set_option linter.unusedVariables false
set_option linter.unusedSimpArgs false
structure Boxes (w0 W : World) (L : List (Nat × Obj)) : Prop where
  below : Below w0.heap.size w0 W
  rows : ∀ (i : Nat) p, L[i]? = some p → w0.heap.size ≤ p.1 ∧ W.heap[p.1]? = some p.2
  apart : ∀ (i j : Nat) p q, L[i]? = some p → L[j]? = some q → i ≠ j → p.1 ≠ q.1
namespace Boxes
variable {w0 W W' : World} {L : List (Nat × Obj)} {b : Nat} {o o' : Obj}
theorem start (w : World) : Boxes w w [] := ⟨Below.refl _ _, fun i p hp => by simp at hp, fun i j p q hp => by simp at hp⟩
theorem at_ (h : Boxes w0 W L) (i : Nat) {p : Nat × Obj} (hp : L[i]? = some p) : W.heap[p.1]? = some p.2 := (h.rows i p hp).2
theorem lt (h : Boxes w0 W L) (i : Nat) {p : Nat × Obj} (hp : L[i]? = some p) : p.1 < W.heap.size := (Array.getElem?_eq_some_iff.1 (h.at_ i hp)).1
theorem step (h : Boxes w0 W L) (hb : Below W.heap.size W W') : Boxes w0 W' L :=
  ⟨below_then h.below h.below.size hb, fun i p hp => ⟨(h.rows i p hp).1, (hb.block p.1 (h.lt i hp)).trans (h.at_ i hp)⟩, h.apart⟩
theorem new (h : Boxes w0 W L) (hb : Below W.heap.size W W') (hn : W'.heap[W.heap.size]? = some o) : Boxes w0 W' (L ++ [(W.heap.size, o)]) := by
  have h1 := h.step hb
  refine ⟨h1.below, fun i p hp => ?_, fun i j p q hp hq hij => ?_⟩
  · rcases Nat.lt_or_ge i L.length with hi | hi
    · rw [List.getElem?_append_left hi] at hp; exact h1.rows i p hp
    · rw [List.getElem?_append_right hi] at hp
      have : i - L.length = 0 := by
        rcases Nat.eq_zero_or_pos (i - L.length) with h0 | h0
        · exact h0
        · rw [List.getElem?_eq_none (by simp; omega)] at hp; cases hp
      rw [this] at hp
      obtain rfl := Option.some.inj hp
      exact ⟨h.below.size, hn⟩
  · have key : ∀ (k : Nat) r, (L ++ [(W.heap.size, o)])[k]? = some r → (k < L.length ∧ L[k]? = some r) ∨ (k = L.length ∧ r.1 = W.heap.size) := by
      intro k r hr
      rcases Nat.lt_or_ge k L.length with hk | hk
      · rw [List.getElem?_append_left hk] at hr; exact .inl ⟨hk, hr⟩
      · rw [List.getElem?_append_right hk] at hr
        rcases Nat.eq_zero_or_pos (k - L.length) with h0 | h0
        · rw [h0] at hr; obtain rfl := Option.some.inj hr; exact .inr ⟨by omega, rfl⟩
        · rw [List.getElem?_eq_none (by simp; omega)] at hr; cases hr
    rcases key i p hp with ⟨h2, h3⟩ | ⟨h2, h3⟩ <;> rcases key j q hq with ⟨h4, h5⟩ | ⟨h4, h5⟩
    · exact h.apart i j p q h3 h5 hij
    · have := h.lt i h3; omega
    · have := h.lt j h5; omega
    · omega
theorem alloc (h : Boxes w0 W L) (o : Obj) : Boxes w0 (W.alloc o) (L ++ [(W.heap.size, o)]) := h.new (Below.alloc (Below.refl _ _) (Nat.le_refl _) o) (heap_alloc_new _ _)
/-- A block just made, a row stored into it. -/
theorem box {z : Obj} (h : Boxes w0 W L) (hb : Below W.heap.size (W.alloc z) W') (hn : W'.heap[W.heap.size]? = some o) : Boxes w0 W' (L ++ [(W.heap.size, o)]) :=
  h.new ((Below.alloc (Below.refl _ _) (Nat.le_refl _) z).trans hb) hn
/-- A block that is known, written. -/
theorem put (h : Boxes w0 W L) (i : Nat) (hp : L[i]? = some (b, o)) (ho : ∀ k, k ≠ b → W'.heap[k]? = W.heap[k]?) (hb : Below b W W') (hn : W'.heap[b]? = some o') : Boxes w0 W' (L.set i (b, o')) := by
  have hi : i < L.length := (List.getElem?_eq_some_iff.1 hp).1
  have hfst : ∀ (j : Nat) q, (L.set i (b, o'))[j]? = some q → (j = i ∧ q = (b, o')) ∨ (j ≠ i ∧ L[j]? = some q) := by
    intro j q hq
    rw [List.getElem?_set] at hq
    by_cases hji : i = j
    · subst hji; simp [hi] at hq; exact .inl ⟨rfl, hq.symm⟩
    · rw [if_neg hji] at hq; exact .inr ⟨fun e => hji e.symm, hq⟩
  refine ⟨h.below.trans (hb.mono (h.rows i _ hp).1), fun j q hq => ?_, fun j k q r hq hr hjk => ?_⟩
  · rcases hfst j q hq with ⟨rfl, rfl⟩ | ⟨h1, h2⟩
    · exact ⟨(h.rows j _ hp).1, hn⟩
    · exact ⟨(h.rows j q h2).1, (ho q.1 (h.apart j i q _ h2 hp h1)).trans (h.at_ j h2)⟩
  · rcases hfst j q hq with ⟨rfl, rfl⟩ | ⟨h1, h2⟩ <;> rcases hfst k r hr with ⟨rfl, rfl⟩ | ⟨h3, h4⟩
    · omega
    · exact h.apart j k (b, o) r hp h4 hjk
    · exact h.apart j k q (b, o) h2 hp hjk
    · exact h.apart j k q r h2 h4 hjk
theorem drop {n : Nat} (h : Boxes w0 W L) : Boxes w0 W (L.take n) := by
  have key : ∀ (j : Nat) q, (L.take n)[j]? = some q → L[j]? = some q := by
    intro j q hq
    rw [List.getElem?_take] at hq
    split at hq
    · exact hq
    · cases hq
  exact ⟨h.below, fun i p hp => h.rows i p (key i p hp), fun i j p q hp hq => h.apart i j p q (key i p hp) (key j q hq)⟩
end Boxes
section
variable {P : Program} {ops : Array Oper} {rest : List Oper} {o : Oper} {a : Act} {w : World} {Q : Exit → Act → World → Prop}
/-- The operation is this one (a cheap look ahead of a dear step). -/
theorem gate_op {op : Op} (_ : o.op = op) (h : wpList P ops Q (o :: rest) a w) : wpList P ops Q (o :: rest) a w := h
/-- A block made: the world behind it under a name of its own. -/
theorem alloc_arm (hwt : Region.wanted o (yielded ops a.tmps) = true) (ty : TypeId) (ho : o.op = .alloc ty) {z : Obj} (hr : (Instr.alloc ty true (.tuple #[])).run P w = .ok (.pointer (some ⟨w.heap.size, 0, none⟩)) (w.alloc z))
    (h : ∀ w', Below w.heap.size w w' → w'.heap[w.heap.size]? = some z → wpList P ops Q rest (a.put o.dst (.pointer (some ⟨w.heap.size, 0, none⟩))) w') : wpList P ops Q (o :: rest) a w :=
  BigFrame.wpList_want hwt fun K hK => by
    have hrun : (execOp a.eval o).run P w = .ok (.value (.pointer (some ⟨w.heap.size, 0, none⟩))) (w.alloc z) := by
      unfold execOp
      simp only [ho, Sem.run_bind, hr, Result.andThen_ok, Sem.run_pure]
    unfold Oper.wp
    rw [hrun, Oper.upon_value]
    exact hK _ _ (h _ (Below.alloc (Below.refl _ _) (Nat.le_refl _) z) (heap_alloc_new _ _))
end
end Go.Proofs.YtnapebgkcjnnbaaGreatDoor
