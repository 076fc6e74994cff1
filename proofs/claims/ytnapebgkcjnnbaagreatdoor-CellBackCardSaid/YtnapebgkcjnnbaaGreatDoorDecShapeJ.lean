/-
  What dec reads has digits alone, none of them a nought ahead, and a power within bounds. No condition.
-/
import Derived.Test.YtnapebgkcjnnbaaGreatDoorDecParseAnyJ
namespace Go.Proofs.YtnapebgkcjnnbaaGreatDoor
set_option linter.unusedVariables false
theorem take_dig (l : List UInt8) : l.take (digN l) = l.takeWhile isDig := by
  induction l with
  | nil => rfl
  | cons c l ih =>
    rw [digN_cons, List.takeWhile_cons]
    split
    · rw [List.take_succ_cons, ih]
    · rfl
theorem takeWhile_all {l : List UInt8} {p : UInt8 → Bool} {c : UInt8} (h : c ∈ l.takeWhile p) : p c = true := by
  induction l with
  | nil => simp at h
  | cons a l ih =>
    rw [List.takeWhile_cons] at h
    split at h
    · rcases List.mem_cons.1 h with rfl | h
      · assumption
      · exact ih h
    · simp at h
structure Shape (x : Bool × List UInt8 × Int) : Prop where
  dig : ∀ c ∈ x.2.1, isDig c = true
  head : x.2.1.head? ≠ some 48
  len : x.2.1.length ≤ 800
  lo : -101000 ≤ x.2.2
  hi : x.2.2 ≤ 101000
theorem trimRight_pre (l : List UInt8) (c : UInt8) : ∃ t, l = Lib.trimRightB l c ++ t := by
  obtain ⟨t, ht⟩ := List.dropWhile_suffix (l := l.reverse) (· == c)
  refine ⟨t.reverse, ?_⟩
  have := congrArg List.reverse ht
  rw [List.reverse_append, List.reverse_reverse] at this
  exact this.symm
theorem dropWhile_head (l : List UInt8) (c : UInt8) : (l.dropWhile (· == c)).head? ≠ some c := by
  induction l with
  | nil => simp
  | cons a l ih =>
    rw [List.dropWhile_cons]
    split
    · exact ih
    · rename_i h
      simp at h ⊢
      exact h
theorem norm_shape {b : Bool} {W P : List UInt8} {e : Int} (hW : ∀ c ∈ W, isDig c = true) (hP : ∀ c ∈ P, isDig c = true) (h0 : 1 ≤ W.length) (h1 : W.length ≤ 400) (h2 : P.length ≤ 400) (he1 : -100000 ≤ e) (he2 : e ≤ 100000) : Shape (normN b W P e) := by
  unfold normN
  split
  · exact ⟨by simp, by simp, by simp, by simp, by simp⟩
  · rename_i hne
    obtain ⟨t, ht⟩ := trimRight_pre (Lib.trimLeftB (W ++ P) 48) 48
    have hle := trimLeftB_le (W ++ P) 48
    have hlen : (W ++ P).length = W.length + P.length := List.length_append
    have hsuf : ∀ c ∈ Lib.trimLeftB (W ++ P) 48, isDig c = true := fun c hc => by
      have : c ∈ W ++ P := (List.dropWhile_suffix _).subset hc
      rcases List.mem_append.1 this with h | h
      · exact hW c h
      · exact hP c h
    have hlt := congrArg List.length ht
    rw [List.length_append] at hlt
    refine ⟨fun c hc => hsuf c (by rw [ht]; exact List.mem_append_left _ hc), fun h => ?_, by simp only; omega, by simp only; omega, by simp only; omega⟩
    have hh : (Lib.trimLeftB (W ++ P) 48).head? = some 48 := by
      rw [ht]
      simp only at h
      cases hq : Lib.trimRightB (Lib.trimLeftB (W ++ P) 48) 48 with
      | nil => rw [hq] at h; simp at h
      | cons a l => rw [hq] at h; simpa using h
    exact dropWhile_head (W ++ P) 48 hh
theorem parse_shape {l : List UInt8} {x : Bool × List UInt8 × Int} (h : parseN l = some x) : Shape x := by
  unfold parseN at h
  split at h
  · cases h
  rename_i hl
  split at h
  · cases h
  rename_i hd
  obtain ⟨pr, hpr, h⟩ := Option.bind_eq_some_iff.1 h
  obtain ⟨e, he, h⟩ := Option.map_eq_some_iff.1 h
  subst h
  have hRl : (Lib.trimPrefix l [45]).length ≤ 400 := Nat.le_trans (Lib.trimPrefix_le _ _) (by omega)
  have hdl := digN_le (Lib.trimPrefix l [45])
  have hdl0 : digN (Lib.trimPrefix l [45]) ≠ 0 := fun h => hd (.inl h)
  have hP : (∀ c ∈ pr.1, isDig c = true) ∧ pr.1.length ≤ 400 := by
    unfold partN at hpr
    split at hpr
    · split at hpr
      · cases hpr
      · cases hpr
        refine ⟨fun c hc => ?_, ?_⟩
        · rw [take_dig] at hc; exact takeWhile_all hc
        · simp only [List.length_take, List.length_drop]; omega
    · cases hpr; simp
  have hE : -100000 ≤ e ∧ e ≤ 100000 := by
    unfold expN at he
    split at he
    · cases he; simp
    · split at he
      · exact powerN_range he
      · cases he
  refine norm_shape (fun c hc => ?_) hP.1 ?_ ?_ hP.2 hE.1 hE.2
  · rw [take_dig] at hc; exact takeWhile_all hc
  · rw [List.length_take]; omega
  · rw [List.length_take]; omega
end Go.Proofs.YtnapebgkcjnnbaaGreatDoor
