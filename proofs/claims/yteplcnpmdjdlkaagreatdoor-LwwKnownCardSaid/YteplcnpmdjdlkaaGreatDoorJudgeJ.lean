/-
  value.judge's walk over a tree tells what is written here, and counts in its block alone. Condition: what own and letters tell is known.
-/
import Derived.Test.YteplcnpmdjdlkaaGreatDoorTreeJ
namespace Go.Proofs.YteplcnpmdjdlkaaGreatDoor
open Go.RowKit
set_option linter.unusedVariables false
set_option linter.unusedSimpArgs false
set_option linter.unusedSectionVars false
/-- What is known while nodes are counted in block b: the count, the blocks of one's own; all else of old is as it was. -/
structure JS (w0 W : World) (b : Nat) (n : Int) (L : List (Nat × Obj)) : Prop where
  below : Below b w0 W
  cell : W.heap[b]? = some (.cells #[.int .i64 n] 100 (0, 0))
  others : ∀ k, k < w0.heap.size → k ≠ b → W.heap[k]? = w0.heap[k]?
  rows : ∀ p ∈ L, w0.heap.size ≤ p.1 ∧ W.heap[p.1]? = some p.2
namespace JS
variable {w0 W W' : World} {b : Nat} {n n' : Int} {L : List (Nat × Obj)} {o : Obj}
theorem lt (h : JS w0 W b n L) : b < W.heap.size := (Array.getElem?_eq_some_iff.1 h.cell).1
theorem size (h : JS w0 W b n L) : w0.heap.size ≤ W.heap.size := h.below.size
theorem start (w : World) (hc : w.heap[b]? = some (.cells #[.int .i64 n] 100 (0, 0))) : JS w w b n [] := ⟨Below.refl _ _, hc, fun _ _ _ => rfl, fun p hp => by cases hp⟩
theorem step (h : JS w0 W b n L) (hb : Below W.heap.size W W') : JS w0 W' b n L :=
  ⟨h.below.trans (hb.mono (Nat.le_of_lt h.lt)), (hb.block _ h.lt).trans h.cell, fun k hk hne => (hb.block k (Nat.lt_of_lt_of_le hk h.size)).trans (h.others k hk hne),
    fun p hp => ⟨(h.rows p hp).1, (hb.block p.1 (Array.getElem?_eq_some_iff.1 (h.rows p hp).2).1).trans (h.rows p hp).2⟩⟩
theorem alloc (h : JS w0 W b n L) (o : Obj) : JS w0 (W.alloc o) b n (L ++ [(W.heap.size, o)]) := by
  have h1 := h.step (Below.alloc (Below.refl W.heap.size W) (Nat.le_refl _) o)
  refine ⟨h1.below, h1.cell, h1.others, fun p hp => ?_⟩
  rcases List.mem_append.1 hp with hp | hp
  · exact h1.rows p hp
  · obtain rfl := List.mem_singleton.1 hp
    exact ⟨h.size, heap_alloc_new _ _⟩
theorem box {z : Obj} (h : JS w0 W b n L) (ho : ∀ k, k ≠ W.heap.size → W'.heap[k]? = (W.alloc z).heap[k]?) (hb : Below W.heap.size (W.alloc z) W') (hn : W'.heap[W.heap.size]? = some o) : JS w0 W' b n (L ++ [(W.heap.size, o)]) := by
  have hw : Below W.heap.size W W' := (Below.alloc (Below.refl W.heap.size W) (Nat.le_refl _) z).trans hb
  have h1 := h.step hw
  refine ⟨h1.below, h1.cell, h1.others, fun p hp => ?_⟩
  rcases List.mem_append.1 hp with hp | hp
  · exact h1.rows p hp
  · obtain rfl := List.mem_singleton.1 hp
    exact ⟨h.size, hn⟩
theorem set (h : JS w0 W b n L) (hb0 : b < w0.heap.size) (ho : ∀ k, k ≠ b → W'.heap[k]? = W.heap[k]?) (hb : Below b W W') (hn : W'.heap[b]? = some (.cells #[.int .i64 n'] 100 (0, 0))) : JS w0 W' b n' L :=
  ⟨h.below.trans hb, hn, fun k hk hne => (ho k hne).trans (h.others k hk hne), fun p hp => ⟨(h.rows p hp).1, (ho p.1 (by have := (h.rows p hp).1; omega)).trans (h.rows p hp).2⟩⟩
theorem call (h : JS w0 W b n L) (hb0 : b < w0.heap.size) (h' : JS W W' b n' []) : JS w0 W' b n' L :=
  ⟨h.below.trans h'.below, h'.cell, fun k hk hne => (h'.others k (Nat.lt_of_lt_of_le hk h.size) hne).trans (h.others k hk hne),
    fun p hp => ⟨(h.rows p hp).1, (h'.others p.1 (Array.getElem?_eq_some_iff.1 (h.rows p hp).2).1 (by have := (h.rows p hp).1; omega)).trans (h.rows p hp).2⟩⟩
theorem drop {L' : List (Nat × Obj)} (h : JS w0 W b n L) (hs : ∀ p ∈ L', p ∈ L) : JS w0 W b n L' := ⟨h.below, h.cell, h.others, fun p hp => h.rows p (hs p hp)⟩
theorem g0 {p : Nat × Obj} (h : JS w0 W b n (p :: L)) : W.heap[p.1]? = some p.2 := (h.rows p (by simp)).2
theorem g1 {p q : Nat × Obj} (h : JS w0 W b n (p :: q :: L)) : W.heap[q.1]? = some q.2 := (h.rows q (by simp)).2
end JS
/-- A row of judgements, each with the count so far. -/
def runTo (p : Nat → Int → Bool × Int) : Nat → Int → Bool × Int
  | 0, n => (true, n)
  | k + 1, n => if (runTo p k n).1 then p k (runTo p k n).2 else (false, (runTo p k n).2)
theorem runTo_stop {p : Nat → Int → Bool × Int} {n m : Int} {i k : Nat} (hi : i < k) (h0 : (runTo p i n).1 = true) (h : p i (runTo p i n).2 = (false, m)) : runTo p k n = (false, m) := by
  induction k with
  | zero => omega
  | succ k ih =>
    rcases Nat.lt_or_ge i k with h1 | h1
    · rw [runTo, ih h1]; rfl
    · obtain rfl : i = k := by omega
      rw [runTo, h0, if_pos rfl, h]
/-- Does a key count more than the one ahead? -/
def risesB (a b : ByteArray) : Bool := !(Op.bytesLess b.toList a.toList || b.toList == a.toList)
def judgeT (ob : VT → Bool) (letC : ByteArray → Int) : VT → Int → Int → Bool × Int
  | .no, deep, n0 => if decide (4096 < n0 + 1) || decide (32 < deep) || !ob .no then (false, n0 + 1) else (true, n0 + 1)
  | .mk k n s lA lb lo ln lc lt mA mb mo mn mc key mt, deep, n0 =>
    if decide (4096 < n0 + 1) || decide (32 < deep) || !ob (.mk k n s lA lb lo ln lc lt mA mb mo mn mc key mt) then (false, n0 + 1) else
      if (runTo (fun i m => judgeT ob letC (lt i) (deep + 1) m) ln (n0 + 1)).1 then
        runTo (fun i m => if decide (0 < i) && !risesB (key (i - 1)) (key i) || !(letC (key i) == 0) then (false, m) else judgeT ob letC (mt i) (deep + 1) m) mn (runTo (fun i m => judgeT ob letC (lt i) (deep + 1) m) ln (n0 + 1)).2
      else (false, (runTo (fun i m => judgeT ob letC (lt i) (deep + 1) m) ln (n0 + 1)).2)
def judgeL (ob : VT → Bool) (letC : ByteArray → Int) (t : VT) (deep : Int) : Nat → Int → Bool × Int := fun i m => judgeT ob letC (t.lt i) (deep + 1) m
def judgeM (ob : VT → Bool) (letC : ByteArray → Int) (t : VT) (deep : Int) : Nat → Int → Bool × Int := fun i m => if decide (0 < i) && !risesB (t.key (i - 1)) (t.key i) || !(letC (t.key i) == 0) then (false, m) else judgeT ob letC (t.mt i) (deep + 1) m
theorem judgeT_eq (ob : VT → Bool) (letC : ByteArray → Int) (t : VT) (deep n0 : Int) : judgeT ob letC t deep n0 =
    if decide (4096 < n0 + 1) || decide (32 < deep) || !ob t then (false, n0 + 1) else
      if (runTo (judgeL ob letC t deep) t.ln (n0 + 1)).1 then runTo (judgeM ob letC t deep) t.mn (runTo (judgeL ob letC t deep) t.ln (n0 + 1)).2 else (false, (runTo (judgeL ob letC t deep) t.ln (n0 + 1)).2) := by
  cases t with
  | no => simp [judgeT, VT.ln, VT.mn, runTo]
  | mk => rfl
end Go.Proofs.YteplcnpmdjdlkaaGreatDoor
