/-
  Plain facts for ClockJoins. No condition.
-/
import Derived.Test.YtlmligchjjgcmaaClkOrd0
namespace Go.Proofs.Ytlmligchjjgcmaa
open Go.RowKit
set_option linter.unusedVariables false
set_option linter.unusedSimpArgs false
set_option linter.unusedSectionVars false
theorem kn_kn (x : Int) : kn (kn x) = kn x := by have := kn_range x; exact kn_in this.1 this.2
theorem mx_kn (x y : Int) : 0 ≤ mx (kn x) (kn y) ∧ mx (kn x) (kn y) ≤ 60 := by
  have h1 := kn_range x; have h2 := kn_range y
  unfold mx; split <;> omega
theorem kn_mx (x y : Int) : kn (mx (kn x) (kn y)) = mx (kn x) (kn y) := by have := mx_kn x y; exact kn_in this.1 this.2
theorem mx_comm (a b : Int) : mx a b = mx b a := by unfold mx; split <;> split <;> omega
theorem mx_assoc (a b c : Int) : mx (mx a b) c = mx a (mx b c) := by
  unfold mx
  by_cases h1 : a < b <;> by_cases h2 : b < c <;> by_cases h3 : a < c <;> simp [h1, h2, h3] <;> omega
theorem mx_self (a : Int) : mx a a = a := by unfold mx; split <;> omega
section
variable {u v w : List Int} (hu : u.length = 64) (hv : v.length = 64) (hw : w.length = 64)
theorem joinOf_length (u v : List Int) : (joinOf u v).length = u.length := joinTo_length u v 64
theorem joinOf_at (u v : List Int) (hu : u.length = 64) (i : Nat) (hi : i < 64) : vat (joinOf u v) i = mx (kn (vat u i)) (kn (vat v i)) := by
  unfold joinOf
  rw [joinTo_at u v 64 i (by omega) (by omega), if_pos hi]
include hu hv
theorem join_comm : joinOf u v = joinOf v u := by
  refine vat_ext (by rw [joinOf_length, joinOf_length, hu, hv]) (fun i hi => ?_)
  rw [joinOf_length, hu] at hi
  rw [joinOf_at u v hu i hi, joinOf_at v u hv i hi, mx_comm]
theorem join_assoc : joinOf (joinOf u v) w = joinOf u (joinOf v w) := by
  have hj : (joinOf u v).length = 64 := by rw [joinOf_length, hu]
  refine vat_ext (by rw [joinOf_length, joinOf_length, joinOf_length]) (fun i hi => ?_)
  rw [joinOf_length, hj] at hi
  rw [joinOf_at _ w hj i hi, joinOf_at u v hu i hi, joinOf_at u _ hu i hi, joinOf_at v w hv i hi, kn_mx, kn_mx, mx_assoc]
theorem join_covers1 : coversB (joinOf u v) u = true := by
  rw [coversB_iff]
  intro i hi
  rw [joinOf_at u v hu i hi, kn_mx]
  unfold mx; split <;> omega
theorem join_covers2 : coversB (joinOf u v) v = true := by
  rw [coversB_iff]
  intro i hi
  rw [joinOf_at u v hu i hi, kn_mx]
  unfold mx; split <;> omega
theorem join_self : joinOf (joinOf u v) (joinOf u v) = joinOf u v := by
  have hj : (joinOf u v).length = 64 := by rw [joinOf_length, hu]
  refine vat_ext (by rw [joinOf_length]) (fun i hi => ?_)
  rw [joinOf_length, hj] at hi
  rw [joinOf_at _ _ hj i hi, joinOf_at u v hu i hi, kn_mx, mx_self]
end
/-- How many of a replica's are in a list. -/
def cnt (l : List (Int × Int)) (i : Nat) : Nat := l.countP (fun p => p.1 == (i : Int) + 1)
theorem cnt_append (l m : List (Int × Int)) (i : Nat) : cnt (l ++ m) i = cnt l i + cnt m i := by simp [cnt]
theorem cnt_missAt (u : List Int) (k j i : Nat) : cnt (missAt u k j) i = if i = k then j else 0 := by
  induction j with
  | zero => simp [missAt, cnt]
  | succ j ih =>
    rw [missAt_succ, cnt_append, ih]
    unfold cnt
    by_cases h : i = k
    · subst h; simp
    · have : ((k : Int) + 1 == (i : Int) + 1) = false := by simp only [beq_eq_false_iff_ne]; omega
      simp [h, this]
theorem cnt_missTo (u v : List Int) (k i : Nat) : cnt (missTo u v k) i = if i < k then (kn (vat v i) - kn (vat u i)).toNat else 0 := by
  induction k with
  | zero => simp [missTo, cnt]
  | succ k ih =>
    simp only [missTo, cnt_append, ih, cnt_missAt]
    by_cases h : i = k
    · subst h; rw [if_neg (by omega), if_pos rfl, if_pos (by omega)]; omega
    · rw [if_neg h]
      by_cases h2 : i < k
      · rw [if_pos h2, if_pos (by omega)]; omega
      · rw [if_neg h2, if_neg (by omega)]
/-- Each name of the list is the next one of its replica. -/
theorem miss_next (u v : List Int) (k : Nat) (m : Nat) (p : Int × Int) (hp : (missTo u v k)[m]? = some p) :
    ∃ r, r < k ∧ p = ((r : Int) + 1, kn (vat u r) + 1 + (cnt ((missTo u v k).take m) r : Int)) ∧ kn (vat u r) + (cnt ((missTo u v k).take m) r : Int) < kn (vat v r) := by
  induction k with
  | zero => simp [missTo] at hp
  | succ k ih =>
    simp only [missTo] at hp ⊢
    by_cases hm : m < (missTo u v k).length
    · rw [List.getElem?_append_left hm] at hp
      obtain ⟨r, hr, h1, h2⟩ := ih hp
      rw [List.take_append_of_le_length (by omega)]
      exact ⟨r, by omega, h1, h2⟩
    · rw [List.getElem?_append_right (by omega)] at hp
      obtain ⟨d, rfl⟩ : ∃ d, m = (missTo u v k).length + d := ⟨m - (missTo u v k).length, by omega⟩
      rw [Nat.add_sub_cancel_left] at hp
      rw [List.take_length_add_append]
      have hd : d < (kn (vat v k) - kn (vat u k)).toNat := by
        have := (List.getElem?_eq_some_iff.1 hp).1
        simpa [missAt] using this
      have hpe : p = ((k : Int) + 1, kn (vat u k) + 1 + (d : Int)) := by
        simp [missAt, List.getElem?_map, List.getElem?_range hd] at hp
        exact hp.symm
      have htk : (missAt u k (kn (vat v k) - kn (vat u k)).toNat).take d = missAt u k d := by
        unfold missAt
        rw [← List.map_take, List.take_range, Nat.min_eq_left (by omega)]
      rw [htk]
      have hc : cnt (missTo u v k ++ missAt u k d) k = d := by
        rw [cnt_append, cnt_missTo, cnt_missAt, if_neg (by omega), if_pos rfl, Nat.zero_add]
      refine ⟨k, by omega, ?_, ?_⟩
      · rw [hpe, hc]
      · rw [hc]; omega

/-- What is known when the first m of those that u lacks of v's have come. -/
structure After (u v : List Int) (m : Nat) (x : List Int) : Prop where
  len : x.length = 64
  at_ : ∀ i, i < 64 → kn (vat x i) = kn (vat u i) + (cnt ((missOf u v).take m) i : Int)
theorem after_zero (u v : List Int) (hu : u.length = 64) : After u v 0 u := ⟨hu, fun i _ => by simp [cnt]⟩
theorem after_next {u v x : List Int} {m : Nat} {p : Int × Int} (h : After u v m x) (hp : (missOf u v)[m]? = some p) :
    hasB x p.1 p.2 = false ∧ hasB v p.1 p.2 = true ∧ (withOf x p.1 p.2).2 = true ∧ After u v (m + 1) (withOf x p.1 p.2).1 := by
  obtain ⟨r, hr, hpe, hlt⟩ := miss_next u v 64 m p hp
  have hlt : kn (vat u r) + (cnt ((missOf u v).take m) r : Int) < kn (vat v r) := hlt
  have hpe : p = ((r : Int) + 1, kn (vat u r) + 1 + (cnt ((missOf u v).take m) r : Int)) := hpe
  have hk := h.at_ r hr
  have hkr := kn_range (vat u r)
  have hkv := kn_range (vat v r)
  have hkx : know x ((r : Int) + 1) = kn (vat u r) + (cnt ((missOf u v).take m) r : Int) := by rw [know_add, hk]
  have htk : (missOf u v).take (m + 1) = (missOf u v).take m ++ [p] := by rw [List.take_add_one, hp]; rfl
  have hc1 : ∀ i, cnt [p] i = if i = r then 1 else 0 := by
    intro i
    rw [hpe]
    by_cases hir : i = r
    · subst hir; simp [cnt]
    · have : ((r : Int) + 1 == (i : Int) + 1) = false := by simp only [beq_eq_false_iff_ne]; omega
      simp [cnt, this, hir]
  obtain ⟨p1, p2⟩ := p
  obtain ⟨e1, e2⟩ := Prod.mk.inj hpe
  clear hpe hp
  have hr1 : p1.toNat - 1 = r := by omega
  have hg : goodB p1 p2 = true := goodB_iff.2 (by omega)
  have hkp : know x p1 = kn (vat u r) + (cnt ((missOf u v).take m) r : Int) := by rw [e1]; exact hkx
  have hnx : nextOf x p1 = (p1, p2) := by
    unfold nextOf
    rw [hkp, if_pos ⟨replicaB_iff.2 (by omega), by omega⟩]
    exact Prod.ext rfl (by show kn (vat u r) + (cnt ((missOf u v).take m) r : Int) + 1 = p2; omega)
  have hwo : withOf x p1 p2 = ((cleanOf x).set r p2, true) := by
    unfold withOf
    rw [if_pos ⟨hg, hnx⟩, hr1]
  have hbx : hasB x p1 p2 = false := by
    unfold hasB; rw [hg, hkp, Bool.true_and]; exact decide_eq_false (by omega)
  have hbv : hasB v p1 p2 = true := by
    unfold hasB; rw [hg, e1, know_add, Bool.true_and]; exact decide_eq_true (by omega)
  refine ⟨hbx, hbv, by rw [hwo], ?_⟩
  rw [hwo]
  refine ⟨by rw [List.length_set, cleanOf_length, h.len], fun i hi => ?_⟩
  rw [htk, cnt_append, hc1]
  rw [vat_set _ _ _ _ (by rw [cleanOf_length, h.len]; exact hr)]
  by_cases hir : i = r
  · subst hir
    rw [if_pos rfl, if_pos rfl, kn_in (by omega) (by omega)]; omega
  · rw [if_neg hir, if_neg hir, cleanOf_at _ _ (by rw [h.len]; exact hi), kn_kn, h.at_ i hi]; omega
theorem after_end {u v x : List Int} (hu : u.length = 64) (h : After u v (missOf u v).length x) : coversB x v = true ∧ joinOf x Z64 = joinOf u v ∧ missOf x v = [] := by
  have hat : ∀ i, i < 64 → kn (vat x i) = mx (kn (vat u i)) (kn (vat v i)) := by
    intro i hi
    rw [h.at_ i hi, List.take_length]
    unfold missOf
    rw [cnt_missTo, if_pos hi]
    unfold mx; split <;> omega
  refine ⟨?_, ?_, ?_⟩
  · rw [coversB_iff]
    intro i hi
    rw [hat i hi]; unfold mx; split <;> omega
  · refine vat_ext (by rw [joinOf_length, joinOf_length, h.len, hu]) (fun i hi => ?_)
    rw [joinOf_length, h.len] at hi
    rw [joinOf_at _ _ h.len i hi, joinOf_at u v hu i hi, hat i hi, vat_Z]
    have := mx_kn (vat u i) (vat v i)
    unfold mx at *
    have h0 : kn 0 = 0 := rfl
    rw [h0]
    split <;> omega
  · unfold missOf
    have : ∀ k, k ≤ 64 → missTo x v k = [] := by
      intro k
      induction k with
      | zero => intro _; rfl
      | succ k ih =>
        intro hk
        simp only [missTo, ih (by omega), List.nil_append]
        have h1 := hat k (by omega)
        have : (kn (vat v k) - kn (vat x k)).toNat = 0 := by rw [h1]; unfold mx; split <;> omega
        rw [this]; rfl
    exact this 64 (by omega)
end Go.Proofs.Ytlmligchjjgcmaa
