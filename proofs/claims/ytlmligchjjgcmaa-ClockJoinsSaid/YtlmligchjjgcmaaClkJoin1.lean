/-
  Facts on what Missing tells, as a slice in memory. No condition.
-/
import Derived.Test.YtlmligchjjgcmaaClkJoin0
import Derived.Test.YtlmligchjjgcmaaGive
namespace Go.Proofs.Ytlmligchjjgcmaa
open Go.RowKit
set_option linter.unusedVariables false
set_option linter.unusedSimpArgs false
theorem idCells_at (l : List (Int × Int)) (m : Nat) (p : Int × Int) (h : l[m]? = some p) : (idCells l)[m * 2]? = some (.int .i64 p.1) ∧ (idCells l)[m * 2 + 1]? = some (.int .i64 p.2) := by
  induction l generalizing m with
  | nil => simp at h
  | cons q l ih =>
    cases m with
    | zero => simp at h; subst h; simp [idCells]
    | succ m =>
      have h' : l[m]? = some p := by simpa using h
      have := ih m h'
      have e : idCells (q :: l) = .int .i64 q.1 :: .int .i64 q.2 :: idCells l := rfl
      rw [e, show (m + 1) * 2 = m * 2 + 1 + 1 by omega]
      simpa using this
theorem miss_slice {W : World} {base : Nat} {sl : Value} {l : List (Int × Int)} (h : OwnIds W base sl l) : ∃ (A : Option Addr) (cap : Nat) (SL : List (Nat × Obj)), sl = .slice A l.length cap ∧ (∀ q ∈ SL, base ≤ q.1 ∧ W.heap[q.1]? = some q.2) ∧
    ∀ (m : Nat) (p : Int × Int), l[m]? = some p → ∃ g cur, A = some ⟨g, 0, none⟩ ∧ SL = [(g, .cells cur 27 (0, 0))] ∧ l.length ≤ cap ∧ cur[m * 2]? = some (.int .i64 p.1) ∧ cur[m * 2 + 1]? = some (.int .i64 p.2) := by
  rcases Nat.eq_zero_or_pos l.length with h0 | h0
  · rcases h.2 with ⟨rfl, _⟩ | ⟨g, cap, cur, rfl, _⟩
    · exact ⟨none, 0, [], by rw [h0], (fun q hq => by cases hq), (fun m p hp => by have := (List.getElem?_eq_some_iff.1 hp).1; omega)⟩
    · exact ⟨_, cap, [], rfl, (fun q hq => by cases hq), (fun m p hp => by have := (List.getElem?_eq_some_iff.1 hp).1; omega)⟩
  · obtain ⟨g, cap, cur, rfl, hg, hc, _, hh, hcur⟩ := own_block h h0
    refine ⟨_, cap, [(g, .cells cur 27 (0, 0))], rfl, fun q hq => ?_, fun m p hp => ⟨g, cur, rfl, rfl, hc, hcur _ _ (idCells_at l m p hp).1, hcur _ _ (idCells_at l m p hp).2⟩⟩
    obtain rfl := List.mem_singleton.1 hq
    exact ⟨hg, hh⟩
theorem Sees.addAll {w0 W : World} {L SL : List (Nat × Obj)} (h : Sees w0 W L) (hs : ∀ q ∈ SL, w0.heap.size ≤ q.1 ∧ W.heap[q.1]? = some q.2) : Sees w0 W (L ++ SL) :=
  ⟨h.below, fun p hp => by
    rcases List.mem_append.1 hp with hp | hp
    · exact h.rows p hp
    · exact hs p hp⟩
theorem Sees.sub {w0 W : World} {L L' : List (Nat × Obj)} (h : Sees w0 W L) (hs : ∀ p ∈ L', p ∈ L) : Sees w0 W L' := ⟨h.below, fun p hp => h.rows p (hs p hp)⟩

end Go.Proofs.Ytlmligchjjgcmaa
