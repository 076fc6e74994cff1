/-
  A tree of values as it lies in memory. No condition.
  value.judge's walk over a tree tells what is written here, and counts in its block alone. Condition: what own and letters tell is known.
-/
import Derived.Test.YtffcpmohanhihaaGreatDoorJ5
namespace Go.Proofs.YtffcpmohanhihaaGreatDoor
open Go.RowKit
set_option linter.unusedVariables false
set_option linter.unusedSimpArgs false
section
variable {P : Program} {ops : Array Oper} {rest : List Oper} {o : Oper} {a : Act} {w : World} {Q : Exit → Act → World → Prop}
theorem run_load_cells (w : World) (b i : Nat) (ty : TypeId) (cs : Array Value) (d : TypeDesc) (hc : ∀ j v, cs[j]? = some v → w.cell? ⟨b, i + j, none⟩ = some v)
    (hu : P.underlying ty = some d) (hd : (match d with | .struct _ | .array _ _ => true | _ => false) = true) (hi : (P.info? ty).map (·.size) = some cs.size) :
    (loadVar ty ⟨b, i, none⟩).run P w = .ok (.agg cs) w := by
  have h2 : (loadCells ⟨b, i, none⟩ cs.toList.length).run P w = .ok cs.toList.toArray w :=
    run_loadCells_list (P := P) w ⟨b, i, none⟩ cs.toList (fun j v hv => by
      have hadd : (⟨b, i, none⟩ : Addr).add j = ⟨b, i + j, none⟩ := by unfold Addr.add; split <;> simp_all
      rw [hadd]
      exact hc j v (by simpa using hv))
  obtain ⟨i0, hq, hs⟩ := Option.map_eq_some_iff.1 hi
  have hagg : (isAgg ty).run P w = .ok true w := by
    unfold isAgg
    rw [Sem.run_bind, run_underlying hu w]
    cases d <;> simp_all
  simp only [Array.length_toList, Array.toArray_toList] at h2
  simp [loadVar, Sem.run_bind, hagg, sizeOf, typeInfo, hq, hs, h2]
/-- Cells that are known, read as one. -/
theorem load_cells (hwt : Region.wanted o (yielded ops a.tmps) = true) (ty : TypeId) (x : Operand) (ho : o.op = .load ty x)
    (b i : Nat) (hx : a.eval x = .pointer (some ⟨b, i, none⟩)) (cs : Array Value) (d : TypeDesc) (hc : ∀ j v, cs[j]? = some v → w.cell? ⟨b, i + j, none⟩ = some v)
    (hu : P.underlying ty = some d) (hd : (match d with | .struct _ | .array _ _ => true | _ => false) = true) (hi : (P.info? ty).map (·.size) = some cs.size)
    (h : wpList P ops Q rest (a.put o.dst (.agg cs)) w) : wpList P ops Q (o :: rest) a w :=
  BigFrame.wpList_want hwt fun K hK => by
    unfold Oper.wp execOp
    simp only [ho, hx, Instr.loadAt, Instr.sureAddr, Sem.run_bind, Sem.run_pure, Result.andThen_ok, run_load_cells w b i ty cs d hc hu hd hi]
    exact hK _ _ h
/-- .. in a region whose order is open. -/
theorem quiet_load_cells {C : World → Prop} {K : Act → Prop} (ty : TypeId) (x : Operand) (ho : o.op = .load ty x)
    (b i : Nat) (hx : a.eval x = .pointer (some ⟨b, i, none⟩)) (cs : Array Value) (d : TypeDesc) (hc : ∀ w, C w → ∀ j v, cs[j]? = some v → w.cell? ⟨b, i + j, none⟩ = some v)
    (hu : P.underlying ty = some d) (hd : (match d with | .struct _ | .array _ _ => true | _ => false) = true) (hi : (P.info? ty).map (·.size) = some cs.size)
    (h : K (a.put o.dst (.agg cs))) : o.quiet P a C K := by
  refine ⟨_, fun w hw => ?_, h⟩
  unfold Oper.quietAt execOp
  simp only [ho, hx, Instr.loadAt, Instr.sureAddr, Sem.run_bind, Sem.run_pure, Result.andThen_ok, run_load_cells w b i ty cs d (hc w hw) hu hd hi]
  exact ⟨rfl, rfl⟩
theorem run_index_row (t e : TypeId) (ht : P.underlying t = some (.slice e)) (sz : Nat) (hs : (P.info? e).map (·.size) = some sz) {A : Option Addr} {b i0 : Nat} (hA : A = some ⟨b, i0, none⟩) {n i : Nat} (hi : i < n) (cap : Nat) (w : World) :
    (Instr.indexAt t (.slice A n cap) (.int .i64 (i : Int))).run P w = .ok (.pointer (some ⟨b, i0 + i * sz, none⟩)) w := by
  subst hA
  obtain ⟨i1, hq, hs⟩ := Option.map_eq_some_iff.1 hs
  have hadd : (⟨b, i0, none⟩ : Addr).add (i * sz) = ⟨b, i0 + i * sz, none⟩ := by unfold Addr.add; split <;> simp_all
  simp [Instr.indexAt, run_underlying ht, asIntOf, sizeOf, typeInfo, hq, hs, hi, hadd]
/-- A call through a function value. -/
theorem call_fn (hwt : Region.wanted o (yielded ops a.tmps) = true) (x : Operand) (xs : Array Operand) (ts : Array TypeId) (ho : o.op = .call { callee := .value x, args := xs, argTypes := ts })
    {f : FuncId} {fn : Func} (hx : a.eval x = .func (.func f) #[] #[]) (hf : P.funcs[f]? = some fn) (hname : (fn.name == "runtime.NumGoroutine") = false) (hb : fn.body.isSome = true) (args : Array Value) (hargs : xs.map a.eval = args)
    (h : Calls P f args w fun e w' => ∃ v, e = .returned v ∧ wpList P ops Q rest (a.put o.dst v) w') : wpList P ops Q (o :: rest) a w :=
  BigFrame.wpList_want hwt fun K hK => by
    have hb' : fn.body ≠ none := by intro hq; rw [hq] at hb; cases hb
    have hn' : fn.name ≠ "runtime.NumGoroutine" := by simpa using hname
    have hrun : (execOp a.eval o).run P w = .ok (.enter f args) w := by
      unfold execOp
      simp [ho, resolve, hx, Deferred.ofValue, invoke, hargs, callFunc, hf, hn', hb']
    unfold Oper.wp
    rw [hrun, Oper.upon_enter]
    refine h.mono fun e w'' hh => ?_
    obtain ⟨v, rfl, hk⟩ := hh
    exact hK _ _ hk
end
def allTo (p : Nat → Bool) : Nat → Bool
  | 0 => true
  | n + 1 => allTo p n && p n
theorem allTo_iff {p : Nat → Bool} {n : Nat} : allTo p n = true ↔ ∀ i, i < n → p i = true := by
  induction n with
  | zero => simp [allTo]
  | succ n ih =>
    simp only [allTo, Bool.and_eq_true, ih]
    constructor
    · rintro ⟨h1, h2⟩ k hk
      rcases Nat.lt_or_ge k n with h | h
      · exact h1 k h
      · obtain rfl : k = n := by omega
        exact h2
    · intro h
      exact ⟨fun k hk => h k (by omega), h n (by omega)⟩
theorem allTo_no {p : Nat → Bool} {n k : Nat} (hk : k < n) (h : p k = false) : allTo p n = false := by
  rw [Bool.eq_false_iff]
  intro hs
  rw [allTo_iff.1 hs k hk] at h
  cases h
theorem allTo_congr {p q : Nat → Bool} {n : Nat} (h : ∀ i, i < n → p i = q i) : allTo p n = allTo q n := by
  induction n with
  | zero => rfl
  | succ n ih => rw [allTo, allTo, ih (fun i hi => h i (by omega)), h n (by omega)]
/-- A value: its fields, where its two lists lie (a block and a place in it), and what they hold. -/
inductive VT where
  | no
  | mk (k n : Int) (s : ByteArray) (lA : Option Addr) (lb lo ln lc : Nat) (lt : Nat → VT) (mA : Option Addr) (mb mo mn mc : Nat) (key : Nat → ByteArray) (mt : Nat → VT)
namespace VT
def k : VT → Int
  | no => 0
  | mk x _ _ _ _ _ _ _ _ _ _ _ _ _ _ _ => x
def n : VT → Int
  | no => 0
  | mk _ x _ _ _ _ _ _ _ _ _ _ _ _ _ _ => x
def s : VT → ByteArray
  | no => ⟨#[]⟩
  | mk _ _ x _ _ _ _ _ _ _ _ _ _ _ _ _ => x
def lA : VT → Option Addr
  | no => none
  | mk _ _ _ x _ _ _ _ _ _ _ _ _ _ _ _ => x
def lb : VT → Nat
  | no => 0
  | mk _ _ _ _ x _ _ _ _ _ _ _ _ _ _ _ => x
def lo : VT → Nat
  | no => 0
  | mk _ _ _ _ _ x _ _ _ _ _ _ _ _ _ _ => x
def ln : VT → Nat
  | no => 0
  | mk _ _ _ _ _ _ x _ _ _ _ _ _ _ _ _ => x
def lc : VT → Nat
  | no => 0
  | mk _ _ _ _ _ _ _ x _ _ _ _ _ _ _ _ => x
def lt : VT → Nat → VT
  | no => fun _ => no
  | mk _ _ _ _ _ _ _ _ x _ _ _ _ _ _ _ => x
def mA : VT → Option Addr
  | no => none
  | mk _ _ _ _ _ _ _ _ _ x _ _ _ _ _ _ => x
def mb : VT → Nat
  | no => 0
  | mk _ _ _ _ _ _ _ _ _ _ x _ _ _ _ _ => x
def mo : VT → Nat
  | no => 0
  | mk _ _ _ _ _ _ _ _ _ _ _ x _ _ _ _ => x
def mn : VT → Nat
  | no => 0
  | mk _ _ _ _ _ _ _ _ _ _ _ _ x _ _ _ => x
def mc : VT → Nat
  | no => 0
  | mk _ _ _ _ _ _ _ _ _ _ _ _ _ x _ _ => x
def key : VT → Nat → ByteArray
  | no => fun _ => ⟨#[]⟩
  | mk _ _ _ _ _ _ _ _ _ _ _ _ _ _ x _ => x
def mt : VT → Nat → VT
  | no => fun _ => no
  | mk _ _ _ _ _ _ _ _ _ _ _ _ _ _ _ x => x
def L (t : VT) : Value := .slice t.lA t.ln t.lc
def M (t : VT) : Value := .slice t.mA t.mn t.mc
/-- A value's five cells. -/
def c (t : VT) : Array Value := #[.int .i64 t.k, .int .i64 t.n, .string t.s, t.L, t.M]
/-- A pair's six cells. -/
def pc (t : VT) (i : Nat) : Array Value := #[.string (t.key i), .int .i64 (t.mt i).k, .int .i64 (t.mt i).n, .string (t.mt i).s, (t.mt i).L, (t.mt i).M]
/-- What a value's own cells lead to: its elements' cells, each below the block B. -/
structure Here (B : Nat) (w : World) (t : VT) : Prop where
  n0 : -9223372036854775808 ≤ t.n
  n1 : t.n ≤ 9223372036854775807
  k0 : -9223372036854775808 ≤ t.k
  k1 : t.k ≤ 9223372036854775807
  sl : t.s.size ≤ 9223372036854775807
  ll : t.ln ≤ 9223372036854775807
  ml : t.mn ≤ 9223372036854775807
  la : 0 < t.ln → t.lA = some ⟨t.lb, t.lo, none⟩ ∧ t.lb < B
  ma : 0 < t.mn → t.mA = some ⟨t.mb, t.mo, none⟩ ∧ t.mb < B
  lcell : ∀ i, i < t.ln → ∀ j v, (t.lt i).c[j]? = some v → w.cell? ⟨t.lb, t.lo + i * 5 + j, none⟩ = some v
  mcell : ∀ i, i < t.mn → ∀ j v, (t.pc i)[j]? = some v → w.cell? ⟨t.mb, t.mo + i * 6 + j, none⟩ = some v
  kl : ∀ i, i < t.mn → (t.key i).size ≤ 9223372036854775807
/-- A tree lies in memory, all of it below the block B. -/
inductive In (B : Nat) (w : World) : VT → Prop
  | mk {t : VT} (h : Here B w t) (hl : ∀ i, i < t.ln → In B w (t.lt i)) (hm : ∀ i, i < t.mn → In B w (t.mt i)) : In B w t
theorem In.here {B : Nat} {w : World} {t : VT} (h : In B w t) : Here B w t := by cases h; assumption
theorem In.l {B : Nat} {w : World} {t : VT} (h : In B w t) (i : Nat) (hi : i < t.ln) : In B w (t.lt i) := by cases h with | mk _ hl _ => exact hl i hi
theorem In.m {B : Nat} {w : World} {t : VT} (h : In B w t) (i : Nat) (hi : i < t.mn) : In B w (t.mt i) := by cases h with | mk _ _ hm => exact hm i hi
theorem Here.move {B : Nat} {w w' : World} {t : VT} (h : Here B w t) (hb : Below B w w') : Here B w' t :=
  { h with
    lcell := fun i hi j v hv => (hb.cell (p := ⟨t.lb, t.lo + i * 5 + j, none⟩) (h.la (by omega)).2).trans (h.lcell i hi j v hv)
    mcell := fun i hi j v hv => (hb.cell (p := ⟨t.mb, t.mo + i * 6 + j, none⟩) (h.ma (by omega)).2).trans (h.mcell i hi j v hv) }
theorem In.move {B : Nat} {w w' : World} {t : VT} (h : In B w t) (hb : Below B w w') : In B w' t := by
  induction h with
  | mk h _ _ ihl ihm => exact .mk (h.move hb) ihl ihm
theorem Here.up {B B' : Nat} {w : World} {t : VT} (h : Here B w t) (hb : B ≤ B') : Here B' w t :=
  { h with
    la := fun hn => ⟨(h.la hn).1, Nat.lt_of_lt_of_le (h.la hn).2 hb⟩
    ma := fun hn => ⟨(h.ma hn).1, Nat.lt_of_lt_of_le (h.ma hn).2 hb⟩ }
theorem In.up {B B' : Nat} {w : World} {t : VT} (h : In B w t) (hb : B ≤ B') : In B' w t := by
  induction h with
  | mk h _ _ ihl ihm => exact .mk (h.up hb) ihl ihm
/-- In the heap's whole, then where that stays. -/
theorem In.lower {B : Nat} {w w' : World} {t : VT} (h : In B w t) (hB : B ≤ w.heap.size) (hb : Below w.heap.size w w') : In B w' t := h.move (hb.mono hB)
/-- A value without parts. -/
def leaf (k n : Int) (s : ByteArray) : VT := mk k n s none 0 0 0 0 (fun _ => no) none 0 0 0 0 (fun _ => ⟨#[]⟩) (fun _ => no)
theorem leaf_in (B : Nat) (w : World) (k n : Int) (s : ByteArray) (n0 : -9223372036854775808 ≤ n) (n1 : n ≤ 9223372036854775807) (k0 : -9223372036854775808 ≤ k) (k1 : k ≤ 9223372036854775807) (hs : s.size ≤ 9223372036854775807) : In B w (leaf k n s) :=
  .mk ⟨n0, n1, k0, k1, hs, Nat.zero_le _, Nat.zero_le _, fun h => absurd h (Nat.lt_irrefl 0), fun h => absurd h (Nat.lt_irrefl 0), fun i hi => absurd hi (Nat.not_lt_zero i), fun i hi => absurd hi (Nat.not_lt_zero i), fun i hi => absurd hi (Nat.not_lt_zero i)⟩
    (fun i hi => absurd hi (Nat.not_lt_zero i)) (fun i hi => absurd hi (Nat.not_lt_zero i))
theorem no_in (B : Nat) (w : World) : In B w no :=
  .mk ⟨by decide, by decide, by decide, by decide, Nat.zero_le _, Nat.zero_le _, Nat.zero_le _, fun h => absurd h (Nat.lt_irrefl 0), fun h => absurd h (Nat.lt_irrefl 0), fun i hi => absurd hi (Nat.not_lt_zero i), fun i hi => absurd hi (Nat.not_lt_zero i), fun i hi => absurd hi (Nat.not_lt_zero i)⟩
    (fun i hi => absurd hi (Nat.not_lt_zero i)) (fun i hi => absurd hi (Nat.not_lt_zero i))
theorem val_info (t : VT) : (Tryz.prog.info? 38).map (·.size) = some t.c.size := by
  show _ = some 5
  kernel_rfl
theorem pair_info (t : VT) (i : Nat) : (Tryz.prog.info? 82).map (·.size) = some (t.pc i).size := by
  show _ = some 6
  kernel_rfl
theorem c_one (t : VT) : t.c.all (·.oneCell') = true := by simp [c, L, M, Value.oneCell']
theorem pc_one (t : VT) (i : Nat) : (t.pc i).all (·.oneCell') = true := by simp [pc, L, M, Value.oneCell']
theorem info5 : (Tryz.prog.info? 38).map (·.size) = some 5 := by kernel_rfl
theorem info6 : (Tryz.prog.info? 82).map (·.size) = some 6 := by kernel_rfl
section
variable {B : Nat} {w : World} {t : VT}
theorem Here.lix (h : Here B w t) {i : Nat} (hi : i < t.ln) (W : World) : (Instr.indexAt 35 (.slice t.lA t.ln t.lc) (.int .i64 (i : Int))).run Tryz.prog W = .ok (.pointer (some ⟨t.lb, t.lo + i * 5, none⟩)) W :=
  run_index_row _ _ Tryz.underlying35 5 info5 (h.la (by omega)).1 hi _ W
theorem Here.mix (h : Here B w t) {i : Nat} (hi : i < t.mn) (W : World) : (Instr.indexAt 36 (.slice t.mA t.mn t.mc) (.int .i64 (i : Int))).run Tryz.prog W = .ok (.pointer (some ⟨t.mb, t.mo + i * 6, none⟩)) W :=
  run_index_row _ _ Tryz.underlying36 6 info6 (h.ma (by omega)).1 hi _ W
theorem Here.mval (h : Here B w t) {i : Nat} (hi : i < t.mn) : ∀ j v, (t.mt i).c[j]? = some v → w.cell? ⟨t.mb, t.mo + i * 6 + 1 + j, none⟩ = some v := by
  intro j v hv
  rw [show t.mo + i * 6 + 1 + j = t.mo + i * 6 + (j + 1) by omega]
  refine h.mcell i hi (j + 1) v ?_
  rw [← hv]
  simp [pc, c]
theorem Here.mkey (h : Here B w t) {i : Nat} (hi : i < t.mn) : w.cell? ⟨t.mb, t.mo + i * 6, none⟩ = some (.string (t.key i)) := h.mcell i hi 0 _ rfl
end
end VT
theorem cells_regrown {w : World} {b i : Nat} {cs : Array Value} (h : ∀ j v, cs[j]? = some v → w.cell? ⟨b, i + j, none⟩ = some v) (W : World) (hW : ∃ p : Regrown, W = Go.Sort.grow (redrawn w p.d) p.os) :
    ∀ j v, cs[j]? = some v → W.cell? ⟨b, i + j, none⟩ = some v := by
  obtain ⟨p, rfl⟩ := hW
  exact fun j v hv => cell_regrown (h j v hv) p.d p.os
theorem in_later {w wr W : World} {t : VT} (h : VT.In w.heap.size w t) (h1 : Below w.heap.size w wr) (h2 : Below wr.heap.size wr W) : VT.In W.heap.size W t :=
  (h.move (h1.trans (h2.mono h1.size))).up (Nat.le_trans h1.size h2.size)
end Go.Proofs.YtffcpmohanhihaaGreatDoor
namespace Go.Proofs.YtffcpmohanhihaaGreatDoor
open Go.RowKit
set_option linter.unusedVariables false
set_option linter.unusedSimpArgs false
set_option linter.unusedSectionVars false
/-- What is known while nodes are counted in block b: the count, the blocks of one's own; all else of old is as it was. -/
structure JS (w0 W : World) (b : Nat) (n : Int) (L : List (Nat × Obj)) : Prop where
  below : Below b w0 W
  cell : W.heap[b]? = some (.cells #[.int .i64 n] 155 (0, 0))
  others : ∀ k, k < w0.heap.size → k ≠ b → W.heap[k]? = w0.heap[k]?
  rows : ∀ p ∈ L, w0.heap.size ≤ p.1 ∧ W.heap[p.1]? = some p.2
namespace JS
variable {w0 W W' : World} {b : Nat} {n n' : Int} {L : List (Nat × Obj)} {o : Obj}
theorem lt (h : JS w0 W b n L) : b < W.heap.size := (Array.getElem?_eq_some_iff.1 h.cell).1
theorem size (h : JS w0 W b n L) : w0.heap.size ≤ W.heap.size := h.below.size
theorem start (w : World) (hc : w.heap[b]? = some (.cells #[.int .i64 n] 155 (0, 0))) : JS w w b n [] := ⟨Below.refl _ _, hc, fun _ _ _ => rfl, fun p hp => by cases hp⟩
theorem step (h : JS w0 W b n L) (hb : Below W.heap.size W W') : JS w0 W' b n L :=
  ⟨h.below.trans (hb.mono (Nat.le_of_lt h.lt)), (hb.block _ h.lt).trans h.cell, fun k hk hne => (hb.block k (Nat.lt_of_lt_of_le hk h.size)).trans (h.others k hk hne),
    fun p hp => ⟨(h.rows p hp).1, (hb.block p.1 (Array.getElem?_eq_some_iff.1 (h.rows p hp).2).1).trans (h.rows p hp).2⟩⟩
theorem alloc (h : JS w0 W b n L) (o : Obj) : JS w0 (W.alloc o) b n (L ++ [(W.heap.size, o)]) := by
  have h1 := h.step (Below.alloc (Below.refl W.heap.size W) (Nat.le_refl _) o)
  refine ⟨h1.below, h1.cell, h1.others, fun p hp => ?_⟩
  rcases List.mem_append.1 hp with hp | hp
  · exact h1.rows p hp
  · obtain rfl := List.mem_singleton.1 hp
    exact ⟨h.size, heap_alloc_new _ _⟩
theorem box {z : Obj} (h : JS w0 W b n L) (ho : ∀ k, k ≠ W.heap.size → W'.heap[k]? = (W.alloc z).heap[k]?) (hb : Below W.heap.size (W.alloc z) W') (hn : W'.heap[W.heap.size]? = some o) : JS w0 W' b n (L ++ [(W.heap.size, o)]) := by
  have hw : Below W.heap.size W W' := (Below.alloc (Below.refl W.heap.size W) (Nat.le_refl _) z).trans hb
  have h1 := h.step hw
  refine ⟨h1.below, h1.cell, h1.others, fun p hp => ?_⟩
  rcases List.mem_append.1 hp with hp | hp
  · exact h1.rows p hp
  · obtain rfl := List.mem_singleton.1 hp
    exact ⟨h.size, hn⟩
theorem set (h : JS w0 W b n L) (hb0 : b < w0.heap.size) (ho : ∀ k, k ≠ b → W'.heap[k]? = W.heap[k]?) (hb : Below b W W') (hn : W'.heap[b]? = some (.cells #[.int .i64 n'] 155 (0, 0))) : JS w0 W' b n' L :=
  ⟨h.below.trans hb, hn, fun k hk hne => (ho k hne).trans (h.others k hk hne), fun p hp => ⟨(h.rows p hp).1, (ho p.1 (by have := (h.rows p hp).1; omega)).trans (h.rows p hp).2⟩⟩
theorem call (h : JS w0 W b n L) (hb0 : b < w0.heap.size) (h' : JS W W' b n' []) : JS w0 W' b n' L :=
  ⟨h.below.trans h'.below, h'.cell, fun k hk hne => (h'.others k (Nat.lt_of_lt_of_le hk h.size) hne).trans (h.others k hk hne),
    fun p hp => ⟨(h.rows p hp).1, (h'.others p.1 (Array.getElem?_eq_some_iff.1 (h.rows p hp).2).1 (by have := (h.rows p hp).1; omega)).trans (h.rows p hp).2⟩⟩
theorem drop {L' : List (Nat × Obj)} (h : JS w0 W b n L) (hs : ∀ p ∈ L', p ∈ L) : JS w0 W b n L' := ⟨h.below, h.cell, h.others, fun p hp => h.rows p (hs p hp)⟩
theorem g0 {p : Nat × Obj} (h : JS w0 W b n (p :: L)) : W.heap[p.1]? = some p.2 := (h.rows p (by simp)).2
theorem g1 {p q : Nat × Obj} (h : JS w0 W b n (p :: q :: L)) : W.heap[q.1]? = some q.2 := (h.rows q (by simp)).2
end JS
/-- A row of judgements, each with the count so far. -/
def runTo (p : Nat → Int → Bool × Int) : Nat → Int → Bool × Int
  | 0, n => (true, n)
  | k + 1, n => if (runTo p k n).1 then p k (runTo p k n).2 else (false, (runTo p k n).2)
theorem runTo_stop {p : Nat → Int → Bool × Int} {n m : Int} {i k : Nat} (hi : i < k) (h0 : (runTo p i n).1 = true) (h : p i (runTo p i n).2 = (false, m)) : runTo p k n = (false, m) := by
  induction k with
  | zero => omega
  | succ k ih =>
    rcases Nat.lt_or_ge i k with h1 | h1
    · rw [runTo, ih h1]; rfl
    · obtain rfl : i = k := by omega
      rw [runTo, h0, if_pos rfl, h]
/-- Does a key count more than the one ahead? -/
def risesB (a b : ByteArray) : Bool := !(Op.bytesLess b.toList a.toList || b.toList == a.toList)
def judgeT (ob : VT → Bool) (letC : ByteArray → Int) : VT → Int → Int → Bool × Int
  | .no, deep, n0 => if decide (4096 < n0 + 1) || decide (32 < deep) || !ob .no then (false, n0 + 1) else (true, n0 + 1)
  | .mk k n s lA lb lo ln lc lt mA mb mo mn mc key mt, deep, n0 =>
    if decide (4096 < n0 + 1) || decide (32 < deep) || !ob (.mk k n s lA lb lo ln lc lt mA mb mo mn mc key mt) then (false, n0 + 1) else
      if (runTo (fun i m => judgeT ob letC (lt i) (deep + 1) m) ln (n0 + 1)).1 then
        runTo (fun i m => if decide (0 < i) && !risesB (key (i - 1)) (key i) || !(letC (key i) == 0) then (false, m) else judgeT ob letC (mt i) (deep + 1) m) mn (runTo (fun i m => judgeT ob letC (lt i) (deep + 1) m) ln (n0 + 1)).2
      else (false, (runTo (fun i m => judgeT ob letC (lt i) (deep + 1) m) ln (n0 + 1)).2)
def judgeL (ob : VT → Bool) (letC : ByteArray → Int) (t : VT) (deep : Int) : Nat → Int → Bool × Int := fun i m => judgeT ob letC (t.lt i) (deep + 1) m
def judgeM (ob : VT → Bool) (letC : ByteArray → Int) (t : VT) (deep : Int) : Nat → Int → Bool × Int := fun i m => if decide (0 < i) && !risesB (t.key (i - 1)) (t.key i) || !(letC (t.key i) == 0) then (false, m) else judgeT ob letC (t.mt i) (deep + 1) m
theorem judgeT_eq (ob : VT → Bool) (letC : ByteArray → Int) (t : VT) (deep n0 : Int) : judgeT ob letC t deep n0 =
    if decide (4096 < n0 + 1) || decide (32 < deep) || !ob t then (false, n0 + 1) else
      if (runTo (judgeL ob letC t deep) t.ln (n0 + 1)).1 then runTo (judgeM ob letC t deep) t.mn (runTo (judgeL ob letC t deep) t.ln (n0 + 1)).2 else (false, (runTo (judgeL ob letC t deep) t.ln (n0 + 1)).2) := by
  cases t with
  | no => simp [judgeT, VT.ln, VT.mn, runTo]
  | mk => rfl
end Go.Proofs.YtffcpmohanhihaaGreatDoor
