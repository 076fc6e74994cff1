/-
  The plain law of one replica's operations one behind the other: whatever comes, however often; in the end all are taken. No condition.
-/
import Derived.Test.YtffcpmohanhihaaGreatDoorJ22
import Derived.Test.YtffcpmohanhihaaGreatDoorOp25J
namespace Go.Proofs.YtffcpmohanhihaaGreatDoor
open Go.RowKit
set_option linter.unusedVariables false
set_option linter.unusedSimpArgs false
/-- The first replica's so-manieth. -/
def opi (j : Nat) : OT := opv25 1 (j : Int) (j : Int) ((j : Int) - 1) 1
theorem opi_fit {j : Nat} (h : j ≤ 1000) : Fit25 1 (j : Int) (j : Int) ((j : Int) - 1) 1 :=
  ⟨by omega, by omega, by omega, by omega, by omega⟩
theorem opi_ok {j : Nat} (h : j ≤ 1000) : OT.Ok (opi j) := opv25_ok (opi_fit h)
theorem opi_can (j : Nat) : (opi j).can = opi j := rfl
theorem opi_m (j : Nat) : (opi j).o.M = 0 := rfl
def vm (m : Nat) : List Int := Z64.set 0 (m : Int)
theorem chk_good : ((List.range 40).all fun j => (opi (j + 1)).good) = true := by kernel_rfl
theorem chk_cov : ((List.range 41).all fun m => (List.range 40).all fun j => coversB (vm m) (opi (j + 1)).o.seen == decide (j ≤ m)) = true := by kernel_rfl
theorem chk_has : ((List.range 41).all fun m => (List.range 40).all fun j => hasB (vm m) 1 ((j + 1 : Nat) : Int) == decide (j + 1 ≤ m)) = true := by kernel_rfl
theorem chk_with : ((List.range 40).all fun m => (withOf (vm m) 1 ((m + 1 : Nat) : Int)).1 == vm (m + 1)) = true := by kernel_rfl
theorem chk_seen : ((List.range 40).all fun j => (List.range 64).all fun k => vat (opi (j + 1)).o.seen k == if k = 0 then (j : Int) else 0) = true := by kernel_rfl
theorem all_at {n : Nat} {f : Nat → Bool} (h : (List.range n).all f = true) {j : Nat} (hj : j < n) : f j = true := List.all_eq_true.1 h j (List.mem_range.2 hj)
theorem opi_good {j : Nat} (h : j < 40) : (opi (j + 1)).good = true := all_at chk_good h
theorem opi_cov {m j : Nat} (hm : m ≤ 40) (h : j < 40) : coversB (vm m) (opi (j + 1)).o.seen = decide (j ≤ m) := by
  have := all_at (all_at chk_cov (j := m) (by omega)) h
  exact beq_iff_eq.1 this
theorem opi_has {m j : Nat} (hm : m ≤ 40) (h : j < 40) : hasB (vm m) (opi (j + 1)).o.R (opi (j + 1)).o.N = decide (j + 1 ≤ m) := by
  have := all_at (all_at chk_has (j := m) (by omega)) h
  exact beq_iff_eq.1 this
theorem opi_with {m : Nat} (hm : m < 40) : (withOf (vm m) (opi (m + 1)).o.R (opi (m + 1)).o.N).1 = vm (m + 1) := beq_iff_eq.1 (all_at chk_with hm)
theorem opi_seen {j k : Nat} (h : j < 40) (hk : k < 64) : vat (opi (j + 1)).o.seen k = if k = 0 then (j : Int) else 0 := by
  have := all_at (all_at chk_seen h) hk
  exact beq_iff_eq.1 this
theorem opi_inj {i j : Nat} (h : opi i = opi j) : i = j := by
  have : (opi i).o.N = (opi j).o.N := congrArg (fun x : OT => x.o.N) h
  have h2 : (i : Int) = (j : Int) := this
  omega
/-- The document has the first replica's first m, and nothing else. -/
structure SI (m : Nat) (s : DocS) : Prop where
  v : s.v = vm m
  tm : ∀ i, 1 ≤ i → i ≤ m → timeOf s.l (1, (i : Int)) = (i : Int)
theorem s0_SI : SI 0 s0 := ⟨by kernel_rfl, fun i h1 h2 => by omega⟩
theorem saw_opi {m j : Nat} {s : DocS} (h : SI m s) (hj : j < 40) (hjm : j ≤ m) : sawT s.l (opi (j + 1)).o.seen = (j : Int) := by
  have key : ∀ k, k < 64 → sawTo s.l (opi (j + 1)).o.seen (k + 1) = (j : Int) := by
    intro k
    induction k with
    | zero =>
      intro _
      have hv := opi_seen (k := 0) hj (by decide)
      rw [if_pos rfl] at hv
      rw [sawTo_succ, hv]
      show (if 0 < (j : Int) then (if (0 : Int) < timeOf s.l (((0 : Nat) : Int) + 1, (j : Int)) then timeOf s.l (((0 : Nat) : Int) + 1, (j : Int)) else 0) else 0) = (j : Int)
      by_cases h0 : 0 < (j : Int)
      · rw [if_pos h0, show ((0 : Nat) : Int) + 1 = 1 by rfl, h.tm j (by omega) hjm, if_pos h0]
      · rw [if_neg h0]; omega
    | succ k ih =>
      intro hk
      have hv := opi_seen (k := k + 1) hj hk
      rw [if_neg (by omega)] at hv
      rw [sawTo_succ, hv, if_neg (by decide)]
      exact ih (by omega)
  exact key 63 (by decide)
theorem may_opi {m : Nat} {s : DocS} (h : SI m s) (hm : m < 40) : mayB s (opi (m + 1)) = true := by
  unfold mayB
  rw [saw_opi h hm (Nat.le_refl _)]
  have hT : (opi (m + 1)).o.T = ((m + 1 : Nat) : Int) := rfl
  have hk : objkey (opi (m + 1)) = zID := rfl
  rw [hT, hk]
  simp
  omega
theorem apply_opi {m j : Nat} {s : DocS} (h : SI m s) (hm : m ≤ 40) (hj : j < 40) : applyE s (opi (j + 1)) = if j + 1 ≤ m then 5 else if j = m then 0 else 9 := by
  unfold applyE
  rw [opi_good hj, if_neg (by decide), h.v, opi_has hm hj, opi_cov hm hj]
  by_cases h1 : j + 1 ≤ m
  · rw [if_pos (by simpa using h1), if_pos h1]
  · rw [if_neg (by simpa using h1), if_neg h1]
    by_cases h2 : j = m
    · subst h2
      rw [if_neg (by simp), may_opi h hj, if_neg (by decide), if_pos rfl]
    · rw [if_pos (by rw [decide_eq_false_iff_not]; omega), if_neg h2]
theorem take_SI {m : Nat} {s : DocS} (h : SI m s) (hm : m < 40) : SI (m + 1) (takeF s (opi (m + 1))) := by
  refine ⟨?_, fun i h1 h2 => ?_⟩
  · show (withOf s.v (opi (m + 1)).o.R (opi (m + 1)).o.N).1 = _
    rw [h.v, opi_with hm]
  · show timeOf (assocPut s.l (okey (opi (m + 1))) (opi (m + 1))) (1, (i : Int)) = _
    unfold timeOf
    rw [assoc_put]
    by_cases e : i = m + 1
    · subst e
      have e : okey (opi (m + 1)) = ((1 : Int), ((m + 1 : Nat) : Int)) := rfl
      rw [if_pos e]
      rfl
    · have hne : okey (opi (m + 1)) ≠ ((1 : Int), (i : Int)) := fun q => by
        have : ((m + 1 : Nat) : Int) = (i : Int) := congrArg Prod.snd q
        omega
      rw [if_neg hne]
      exact h.tm i h1 (by omega)
def AllIn (n : Nat) (L : List OT) : Prop := ∀ x ∈ L, ∃ j, j < n ∧ x = opi (j + 1)
/-- What stands between two Adds. -/
structure Inv25 (n m : Nat) (s : DocS) (L : List OT) : Prop where
  hn : n ≤ 40
  hm : m ≤ n
  si : SI m s
  l : AllIn n L
  up : ∀ j, opi (j + 1) ∈ L → m < j
def Has (i m : Nat) (L : List OT) : Prop := i + 1 ≤ m ∨ opi (i + 1) ∈ L
theorem delO_mem {x : OT} {i : Nat} {L : List OT} (h : x ∈ delO i L) : x ∈ L := by
  unfold delO at h
  rcases List.mem_append.1 h with h | h
  · exact List.mem_of_mem_take h
  · exact List.mem_of_mem_drop h
theorem mem_delO {x y : OT} {i : Nat} {L : List OT} (h : x ∈ L) (hi : L[i]? = some y) (hne : x ≠ y) : x ∈ delO i L := by
  obtain ⟨k, hk⟩ := List.mem_iff_getElem?.1 h
  unfold delO
  by_cases h1 : k < i
  · refine List.mem_append_left _ (List.mem_iff_getElem?.2 ⟨k, ?_⟩)
    rw [List.getElem?_take, if_pos h1]; exact hk
  · by_cases h2 : k = i
    · subst h2; rw [hk] at hi; exact absurd (Option.some.inj hi) hne
    · refine List.mem_append_right _ (List.mem_iff_getElem?.2 ⟨k - (i + 1), ?_⟩)
      rw [List.getElem?_drop, show i + 1 + (k - (i + 1)) = k by omega]; exact hk
theorem firstI_all {s : DocS} : ∀ {L : List OT}, firstI s L = L.length → ∀ x ∈ L, applyE s x = 9
  | [], _, x, hx => by cases hx
  | a :: L, h, x, hx => by
    unfold firstI at h
    rw [List.takeWhile_cons] at h
    split at h
    · rename_i e
      rcases List.mem_cons.1 hx with rfl | hx
      · exact beq_iff_eq.1 e
      · refine firstI_all (L := L) ?_ x hx
        unfold firstI
        simpa using h
    · simp at h
theorem firstI_not {s : DocS} : ∀ {L : List OT} {x : OT}, L[firstI s L]? = some x → applyE s x ≠ 9
  | [], x, h => by cases h
  | a :: L, x, h => by
    unfold firstI at h
    rw [List.takeWhile_cons] at h
    split at h
    · refine firstI_not (L := L) (x := x) ?_
      unfold firstI
      simpa using h
    · rename_i e
      have : a = x := by simpa using h
      subst this
      simpa using e
theorem drain_inv {n : Nat} (hn : n ≤ 40) : ∀ (k m : Nat) (s : DocS) (L : List OT) (c : Int), L.length = k → m ≤ n → SI m s → AllIn n L →
    ∃ m', Inv25 n m' (drainF k s L c).1 (drainF k s L c).2.1 ∧ m ≤ m' ∧ (∀ i, Has i m L → Has i m' (drainF k s L c).2.1) ∧ (drainF k s L c).2.1.length ≤ L.length
  | 0, m, s, L, c, hl, hm, hs, ha => ⟨m, ⟨hn, hm, hs, ha, fun j hj => by
      have : L = [] := List.length_eq_zero_iff.1 hl
      subst this; cases hj⟩, Nat.le_refl _, fun i h => h, Nat.le_refl _⟩
  | k + 1, m, s, L, c, hl, hm, hs, ha => by
    cases hx : L[firstI s L]? with
    | none =>
      have e : drainF (k + 1) s L c = (s, L, c) := by
        show (match L[firstI s L]? with
          | none => (s, L, c)
          | some x => drainF k (appF s x) (delO (firstI s L) L) (if applyE s x = 0 then c + 1 else c)) = _
        rw [hx]
      rw [e]
      have hf : firstI s L = L.length := by have := List.getElem?_eq_none_iff.1 hx; have := firstI_le s L; omega
      refine ⟨m, ⟨hn, hm, hs, ha, fun j hj => ?_⟩, Nat.le_refl _, fun i h => h, Nat.le_refl _⟩
      obtain ⟨j', hj', e⟩ := ha _ hj
      obtain rfl : j = j' := by have := opi_inj e; omega
      have h9 := firstI_all hf _ hj
      rw [apply_opi hs (by omega) (by omega)] at h9
      split at h9
      · cases h9
      · split at h9
        · cases h9
        · omega
    | some x =>
      have e : drainF (k + 1) s L c = drainF k (appF s x) (delO (firstI s L) L) (if applyE s x = 0 then c + 1 else c) := by
        show (match L[firstI s L]? with
          | none => (s, L, c)
          | some x => drainF k (appF s x) (delO (firstI s L) L) (if applyE s x = 0 then c + 1 else c)) = _
        rw [hx]
      rw [e]
      have hlt := (List.getElem?_eq_some_iff.1 hx).1
      have hd := delO_len hlt
      obtain ⟨j, hj, rfl⟩ := ha x (List.mem_of_getElem? hx)
      have h9 := firstI_not hx
      have hap := apply_opi hs (m := m) (by omega) (show j < 40 by omega)
      have hda : AllIn n (delO (firstI s L) L) := fun y hy => ha y (delO_mem hy)
      by_cases h1 : j + 1 ≤ m
      · rw [if_pos h1] at hap
        have es : appF s (opi (j + 1)) = s := by unfold appF; rw [hap, if_neg (by decide)]
        rw [es]
        obtain ⟨m', hI, hmm, hh, hll⟩ := drain_inv hn k m s (delO (firstI s L) L) (if applyE s (opi (j + 1)) = 0 then c + 1 else c) (by omega) hm hs hda
        refine ⟨m', hI, hmm, fun i hi => hh i ?_, by omega⟩
        rcases hi with hi | hi
        · exact .inl hi
        · by_cases q : i = j
          · exact .inl (by omega)
          · exact .inr (mem_delO hi hx fun q2 => q (by have := opi_inj q2; omega))
      · rw [if_neg h1] at hap
        by_cases h2 : j = m
        · subst h2
          rw [if_pos rfl] at hap
          have es : appF s (opi (j + 1)) = takeF s (opi (j + 1)) := by unfold appF; rw [hap, if_pos rfl]
          rw [es]
          obtain ⟨m', hI, hmm, hh, hll⟩ := drain_inv hn k (j + 1) _ (delO (firstI s L) L) (if applyE s (opi (j + 1)) = 0 then c + 1 else c) (by omega) (by omega) (take_SI hs (by omega)) hda
          refine ⟨m', hI, by omega, fun i hi => hh i ?_, by omega⟩
          rcases hi with hi | hi
          · exact .inl (by omega)
          · by_cases q : i = j
            · exact .inl (by omega)
            · exact .inr (mem_delO hi hx fun q2 => q (by have := opi_inj q2; omega))
        · rw [if_neg h2] at hap
          exact absurd hap h9
theorem insO_mem {x y : OT} {i : Nat} {L : List OT} : x ∈ insO i y L ↔ x = y ∨ x ∈ L := by
  unfold insO
  rw [List.mem_append, List.mem_cons]
  constructor
  · rintro (h | h | h)
    · exact .inr (List.mem_of_mem_take h)
    · exact .inl h
    · exact .inr (List.mem_of_mem_drop h)
  · rintro (h | h)
    · exact .inr (.inl h)
    · rw [← List.take_append_drop i L] at h
      rcases List.mem_append.1 h with h | h
      · exact .inl h
      · exact .inr (.inr h)
theorem add_inv {n m : Nat} {s : DocS} {L : List OT} (h : Inv25 n m s L) {j : Nat} (hj : j < n) (hl : L.length < 256) :
    ∃ m', Inv25 n m' (addF s L (opi (j + 1))).s (addF s L (opi (j + 1))).L ∧ (∀ i, Has i m L → Has i m' (addF s L (opi (j + 1))).L) ∧ Has j m' (addF s L (opi (j + 1))).L ∧ (addF s L (opi (j + 1))).L.length ≤ L.length + 1 := by
  have hn := h.hn
  have hap := apply_opi h.si (show m ≤ 40 by have := h.hm; omega) (show j < 40 by omega)
  unfold addF
  by_cases h1 : j + 1 ≤ m
  · rw [if_pos h1] at hap
    rw [hap, if_neg (by decide), if_neg (by decide)]
    exact ⟨m, h, fun i hi => hi, .inl h1, Nat.le_succ _⟩
  · rw [if_neg h1] at hap
    by_cases h2 : j = m
    · subst h2
      rw [if_pos rfl] at hap
      rw [hap, if_neg (by decide), if_pos rfl]
      obtain ⟨m', hI, hmm, hh, hll⟩ := drain_inv hn L.length (j + 1) _ L 1 rfl (by omega) (take_SI h.si (by omega)) h.l
      refine ⟨m', hI, fun i hi => hh i ?_, .inl (by omega), ?_⟩
      · rcases hi with hi | hi
        · exact .inl (by omega)
        · exact .inr hi
      · show (drainF L.length (takeF s (opi (j + 1))) L 1).2.1.length ≤ _
        omega
    · rw [if_neg h2] at hap
      rw [hap, if_pos rfl]
      unfold waitF
      cases ht : twiceB (opi (j + 1)) L with
      | true =>
        rw [if_pos rfl]
        refine ⟨m, h, fun i hi => hi, ?_, Nat.le_succ _⟩
        unfold twiceB at ht
        cases hz : L[posI (opi (j + 1)) L]? with
        | none => rw [hz] at ht; cases ht
        | some z =>
          rw [hz] at ht
          have ht : sameI z (opi (j + 1)) = true := ht
          have hm := List.mem_of_getElem? hz
          obtain ⟨j', hj', rfl⟩ := h.l z hm
          unfold sameI at ht
          have e : (opi (j' + 1)).o.N = (opi (j + 1)).o.N := beq_iff_eq.1 (Bool.and_eq_true_iff.1 ht).2
          have e : ((j' + 1 : Nat) : Int) = ((j + 1 : Nat) : Int) := e
          obtain rfl : j' = j := by omega
          exact .inr hm
      | false =>
        rw [if_neg (by decide), if_neg (by omega)]
        refine ⟨m, ⟨hn, h.hm, h.si, fun x hx => ?_, fun i hi => ?_⟩, fun i hi => ?_, .inr (insO_mem.2 (.inl rfl)), ?_⟩
        · rcases insO_mem.1 hx with rfl | hx
          · exact ⟨j, hj, rfl⟩
          · exact h.l x hx
        · rcases insO_mem.1 hi with q | q
          · have := opi_inj q; omega
          · exact h.up i q
        · rcases hi with hi | hi
          · exact .inl hi
          · exact .inr (insO_mem.2 (.inr hi))
        · show (insO (posI (opi (j + 1)) L) (opi (j + 1)) L).length ≤ _
          rw [insO_len (posI_le _ _)]
          exact Nat.le_refl _
/-- All were added: all are taken. -/
theorem inv_end {n m : Nat} {s : DocS} {L : List OT} (h : Inv25 n m s L) (hh : ∀ i, i < n → Has i m L) : m = n ∧ L = [] := by
  have hm := h.hm
  have e : m = n := by
    by_cases q : m < n
    · rcases hh m q with q2 | q2
      · omega
      · have := h.up m q2; omega
    · omega
  refine ⟨e, ?_⟩
  cases L with
  | nil => rfl
  | cons x L =>
    obtain ⟨j, hj, rfl⟩ := h.l x (List.mem_cons_self ..)
    have := h.up j (List.mem_cons_self ..)
    omega
end Go.Proofs.YtffcpmohanhihaaGreatDoor
