/-
  What a walk knows of blocks that the call made, each apart from the others: 'Boxes'. No condition.
-/
import Derived.Test.YtnapebgkcjnnbaaGreatDoorRow
namespace Go.Proofs.YtnapebgkcjnnbaaGreatDoor
open Go.RowKit
set_option linter.unusedVariables false
set_option linter.unusedSimpArgs false
structure Boxes (w0 W : World) (L : List (Nat × Obj)) : Prop where
  below : Below w0.heap.size w0 W
  rows : ∀ (i : Nat) p, L[i]? = some p → w0.heap.size ≤ p.1 ∧ W.heap[p.1]? = some p.2
  apart : ∀ (i j : Nat) p q, L[i]? = some p → L[j]? = some q → i ≠ j → p.1 ≠ q.1
namespace Boxes
variable {w0 W W' : World} {L : List (Nat × Obj)} {b : Nat} {o o' : Obj}
theorem start (w : World) : Boxes w w [] := ⟨Below.refl _ _, fun i p hp => by simp at hp, fun i j p q hp => by simp at hp⟩
theorem at_ (h : Boxes w0 W L) (i : Nat) {p : Nat × Obj} (hp : L[i]? = some p) : W.heap[p.1]? = some p.2 := (h.rows i p hp).2
theorem lt (h : Boxes w0 W L) (i : Nat) {p : Nat × Obj} (hp : L[i]? = some p) : p.1 < W.heap.size := (Array.getElem?_eq_some_iff.1 (h.at_ i hp)).1
theorem step (h : Boxes w0 W L) (hb : Below W.heap.size W W') : Boxes w0 W' L :=
  ⟨below_then h.below h.below.size hb, fun i p hp => ⟨(h.rows i p hp).1, (hb.block p.1 (h.lt i hp)).trans (h.at_ i hp)⟩, h.apart⟩
theorem new (h : Boxes w0 W L) (hb : Below W.heap.size W W') (hn : W'.heap[W.heap.size]? = some o) : Boxes w0 W' (L ++ [(W.heap.size, o)]) := by
  have h1 := h.step hb
  refine ⟨h1.below, fun i p hp => ?_, fun i j p q hp hq hij => ?_⟩
  · rcases Nat.lt_or_ge i L.length with hi | hi
    · rw [List.getElem?_append_left hi] at hp; exact h1.rows i p hp
    · rw [List.getElem?_append_right hi] at hp
      have : i - L.length = 0 := by
        rcases Nat.eq_zero_or_pos (i - L.length) with h0 | h0
        · exact h0
        · rw [List.getElem?_eq_none (by simp; omega)] at hp; cases hp
      rw [this] at hp
      obtain rfl := Option.some.inj hp
      exact ⟨h.below.size, hn⟩
  · have key : ∀ (k : Nat) r, (L ++ [(W.heap.size, o)])[k]? = some r → (k < L.length ∧ L[k]? = some r) ∨ (k = L.length ∧ r.1 = W.heap.size) := by
      intro k r hr
      rcases Nat.lt_or_ge k L.length with hk | hk
      · rw [List.getElem?_append_left hk] at hr; exact .inl ⟨hk, hr⟩
      · rw [List.getElem?_append_right hk] at hr
        rcases Nat.eq_zero_or_pos (k - L.length) with h0 | h0
        · rw [h0] at hr; obtain rfl := Option.some.inj hr; exact .inr ⟨by omega, rfl⟩
        · rw [List.getElem?_eq_none (by simp; omega)] at hr; cases hr
    rcases key i p hp with ⟨h2, h3⟩ | ⟨h2, h3⟩ <;> rcases key j q hq with ⟨h4, h5⟩ | ⟨h4, h5⟩
    · exact h.apart i j p q h3 h5 hij
    · have := h.lt i h3; omega
    · have := h.lt j h5; omega
    · omega
theorem alloc (h : Boxes w0 W L) (o : Obj) : Boxes w0 (W.alloc o) (L ++ [(W.heap.size, o)]) := h.new (Below.alloc (Below.refl _ _) (Nat.le_refl _) o) (heap_alloc_new _ _)
/-- A block just made, a row stored into it. -/
theorem box {z : Obj} (h : Boxes w0 W L) (hb : Below W.heap.size (W.alloc z) W') (hn : W'.heap[W.heap.size]? = some o) : Boxes w0 W' (L ++ [(W.heap.size, o)]) :=
  h.new ((Below.alloc (Below.refl _ _) (Nat.le_refl _) z).trans hb) hn
/-- A block that is known, written. -/
theorem put (h : Boxes w0 W L) (i : Nat) (hp : L[i]? = some (b, o)) (ho : ∀ k, k ≠ b → W'.heap[k]? = W.heap[k]?) (hb : Below b W W') (hn : W'.heap[b]? = some o') : Boxes w0 W' (L.set i (b, o')) := by
  have hi : i < L.length := (List.getElem?_eq_some_iff.1 hp).1
  have hfst : ∀ (j : Nat) q, (L.set i (b, o'))[j]? = some q → (j = i ∧ q = (b, o')) ∨ (j ≠ i ∧ L[j]? = some q) := by
    intro j q hq
    rw [List.getElem?_set] at hq
    by_cases hji : i = j
    · subst hji; simp [hi] at hq; exact .inl ⟨rfl, hq.symm⟩
    · rw [if_neg hji] at hq; exact .inr ⟨fun e => hji e.symm, hq⟩
  refine ⟨h.below.trans (hb.mono (h.rows i _ hp).1), fun j q hq => ?_, fun j k q r hq hr hjk => ?_⟩
  · rcases hfst j q hq with ⟨rfl, rfl⟩ | ⟨h1, h2⟩
    · exact ⟨(h.rows j _ hp).1, hn⟩
    · exact ⟨(h.rows j q h2).1, (ho q.1 (h.apart j i q _ h2 hp h1)).trans (h.at_ j h2)⟩
  · rcases hfst j q hq with ⟨rfl, rfl⟩ | ⟨h1, h2⟩ <;> rcases hfst k r hr with ⟨rfl, rfl⟩ | ⟨h3, h4⟩
    · omega
    · exact h.apart j k (b, o) r hp h4 hjk
    · exact h.apart j k q (b, o) h2 hp hjk
    · exact h.apart j k q r h2 h4 hjk
theorem drop {n : Nat} (h : Boxes w0 W L) : Boxes w0 W (L.take n) := by
  have key : ∀ (j : Nat) q, (L.take n)[j]? = some q → L[j]? = some q := by
    intro j q hq
    rw [List.getElem?_take] at hq
    split at hq
    · exact hq
    · cases hq
  exact ⟨h.below, fun i p hp => h.rows i p (key i p hp), fun i j p q hp hq => h.apart i j p q (key i p hp) (key j q hq)⟩
end Boxes
section
variable {P : Program} {ops : Array Oper} {rest : List Oper} {o : Oper} {a : Act} {w : World} {Q : Exit → Act → World → Prop}
/-- The operation is this one (a cheap look ahead of a dear step). -/
theorem gate_op {op : Op} (_ : o.op = op) (h : wpList P ops Q (o :: rest) a w) : wpList P ops Q (o :: rest) a w := h
/-- A block made: the world behind it under a name of its own. -/
theorem alloc_arm (hwt : Region.wanted o (yielded ops a.tmps) = true) (ty : TypeId) (ho : o.op = .alloc ty) {z : Obj} (hr : (Instr.alloc ty true (.tuple #[])).run P w = .ok (.pointer (some ⟨w.heap.size, 0, none⟩)) (w.alloc z))
    (h : ∀ w', Below w.heap.size w w' → w'.heap[w.heap.size]? = some z → wpList P ops Q rest (a.put o.dst (.pointer (some ⟨w.heap.size, 0, none⟩))) w') : wpList P ops Q (o :: rest) a w :=
  BigFrame.wpList_want hwt fun K hK => by
    have hrun : (execOp a.eval o).run P w = .ok (.value (.pointer (some ⟨w.heap.size, 0, none⟩))) (w.alloc z) := by
      unfold execOp
      simp only [ho, Sem.run_bind, hr, Result.andThen_ok, Sem.run_pure]
    unfold Oper.wp
    rw [hrun, Oper.upon_value]
    exact hK _ _ (h _ (Below.alloc (Below.refl _ _) (Nat.le_refl _) z) (heap_alloc_new _ _))
end
end Go.Proofs.YtnapebgkcjnnbaaGreatDoor
