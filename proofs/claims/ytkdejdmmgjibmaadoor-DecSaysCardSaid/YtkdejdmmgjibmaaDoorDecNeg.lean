/-
  A minus put ahead of a number's text, in plain Lean. No condition beside that it was a number without one, and short enough.
-/
import Derived.Test.YtkdejdmmgjibmaaDoorDecLaws
namespace Go.Proofs.YtkdejdmmgjibmaaDoor
set_option linter.unusedVariables false
set_option linter.unusedSimpArgs false
theorem dropWhile_nil {p : UInt8 → Bool} {l : List UInt8} (h : l.dropWhile p = []) : ∀ x ∈ l, p x = true := by
  induction l with
  | nil => intro x hx; cases hx
  | cons a l ih =>
    rw [List.dropWhile_cons] at h
    split at h
    · intro x hx
      rcases List.mem_cons.1 hx with rfl | hx
      · assumption
      · exact ih h x hx
    · cases h
theorem trimRight_nil {l : List UInt8} {c : UInt8} (h : Lib.trimRightB l c = []) : ∀ x ∈ l, x = c := by
  unfold Lib.trimRightB at h
  have h2 := List.reverse_eq_nil_iff.1 h
  intro x hx
  have := dropWhile_nil h2 x (List.mem_reverse.2 hx)
  simpa using this
theorem norm_full {b : Bool} {W P : List UInt8} {e : Int} (h : ¬ Lib.trimLeftB (W ++ P) 48 = []) : (normN b W P e).2.1 ≠ [] := by
  unfold normN
  rw [if_neg h]
  intro h2
  have hall := trimRight_nil h2
  have hh := dropWhile_head (W ++ P) 48
  cases hq : Lib.trimLeftB (W ++ P) 48 with
  | nil => exact h hq
  | cons a l =>
    have ha : a = 48 := hall a (by rw [hq]; simp)
    have : (Lib.trimLeftB (W ++ P) 48).head? = some 48 := by rw [hq, ha]; rfl
    exact hh this
def negN (x : Num) : Num := if x.2.1 = [] then x else (true, x.2.1, x.2.2)
theorem norm_neg (W P : List UInt8) (e : Int) : normN true W P e = negN (normN false W P e) := by
  by_cases h : Lib.trimLeftB (W ++ P) 48 = []
  · have h1 : ∀ b, normN b W P e = (false, [], 0) := fun b => by unfold normN; rw [if_pos h]
    rw [h1, h1]; rfl
  · have h1 := norm_full (b := false) (e := e) h
    unfold negN
    rw [if_neg h1]
    unfold normN
    rw [if_neg h, if_neg h]
theorem norm_pos (W P : List UInt8) (e : Int) : (normN false W P e).1 = false ∧ ((normN false W P e).2.1 = [] → (normN false W P e).2.2 = 0) := by
  by_cases h : Lib.trimLeftB (W ++ P) 48 = []
  · have h1 : normN false W P e = (false, [], 0) := by unfold normN; rw [if_pos h]
    rw [h1]; simp
  · have h1 := norm_full (b := false) (e := e) h
    refine ⟨by unfold normN; rw [if_neg h], fun h2 => absurd h2 h1⟩
theorem no_trim {l : List UInt8} (h : Lib.hasPrefix l [45] = false) : Lib.trimPrefix l [45] = l := by unfold Lib.trimPrefix; rw [if_neg (by simp [h])]
theorem cons_trim (l : List UInt8) : Lib.trimPrefix (45 :: l) [45] = l := by simp [Lib.trimPrefix, Lib.hasPrefix]
theorem parse_neg {l : List UInt8} (h : Lib.hasPrefix l [45] = false) (hl : l.length < 400) : parseN (45 :: l) = (parseN l).map negN := by
  have h1 : Lib.hasPrefix (45 :: l) [45] = true := by simp [Lib.hasPrefix]
  have l1 : ¬ 400 < (45 :: l).length := by simp; omega
  have l2 : ¬ 400 < l.length := by omega
  have e1 : parseN (45 :: l) = if digN l = 0 ∨ (1 < digN l ∧ l.head? = some 48) then none else (partN (l.drop (digN l))).bind fun pr => (expN pr.2).map fun exp => normN true (l.take (digN l)) pr.1 exp := by
    unfold parseN; rw [if_neg l1, cons_trim, h1]
  have e2 : parseN l = if digN l = 0 ∨ (1 < digN l ∧ l.head? = some 48) then none else (partN (l.drop (digN l))).bind fun pr => (expN pr.2).map fun exp => normN false (l.take (digN l)) pr.1 exp := by
    unfold parseN; rw [if_neg l2, no_trim h, h]
  rw [e1, e2]
  by_cases hc : digN l = 0 ∨ (1 < digN l ∧ l.head? = some 48)
  · rw [if_pos hc, if_pos hc]; rfl
  · rw [if_neg hc, if_neg hc]
    cases partN (l.drop (digN l)) with
    | none => rfl
    | some pr =>
      show (expN pr.2).map _ = Option.map negN ((expN pr.2).map _)
      cases expN pr.2 with
      | none => rfl
      | some e => exact congrArg some (norm_neg _ _ _)
theorem parse_pos {l : List UInt8} {x : Num} (h : Lib.hasPrefix l [45] = false) (hx : parseN l = some x) : x.1 = false ∧ (x.2.1 = [] → x.2.2 = 0) := by
  unfold parseN at hx
  split at hx
  · cases hx
  · split at hx
    · cases hx
    · obtain ⟨pr, hpr, hx⟩ := Option.bind_eq_some_iff.1 hx
      obtain ⟨e, he, hx⟩ := Option.map_eq_some_iff.1 hx
      subst hx
      rw [h]
      exact norm_pos _ _ _
theorem neg_parts {x : Num} : (negN x).2.1 = x.2.1 ∧ (negN x).2.2 = x.2.2 := by unfold negN; split <;> exact ⟨rfl, rfl⟩
theorem neg_sign {x : Num} (h : x.1 = false) : signN (negN x) = -signN x := by
  unfold signN
  rw [neg_parts.1]
  by_cases h0 : x.2.1 = []
  · rw [if_pos h0, if_pos h0]; rfl
  · rw [if_neg h0, if_neg h0, h]
    unfold negN
    rw [if_neg h0]; simp
theorem neg_size (x y : Num) : sizeN (negN x) (negN y) = sizeN x y := by unfold sizeN; rw [neg_parts.1, neg_parts.2, neg_parts.1, neg_parts.2]
theorem ci_neg (a b : Int) : Lib.compareInt (-a) (-b) = -Lib.compareInt a b := by unfold Lib.compareInt; (repeat' split) <;> omega
theorem sign_pos {x : Num} (h : x.1 = false) : 0 ≤ signN x := by unfold signN; rw [h]; split <;> simp
theorem cmp_neg_neg {a b : List UInt8} (ha : Lib.hasPrefix a [45] = false) (hb : Lib.hasPrefix b [45] = false) (la : a.length < 400) (lb : b.length < 400) (ga : goodN a = true) (gb : goodN b = true) : cmpN (45 :: a) (45 :: b) = -cmpN a b := by
  obtain ⟨x, hx⟩ := Option.isSome_iff_exists.1 ga
  obtain ⟨y, hy⟩ := Option.isSome_iff_exists.1 gb
  have hx1 := parse_pos ha hx
  have hy1 := parse_pos hb hy
  unfold cmpN
  rw [parse_neg ha la, parse_neg hb lb, hx, hy]
  show cmpNum (negN x) (negN y) = -cmpNum x y
  unfold cmpNum
  rw [neg_sign hx1.1, neg_sign hy1.1, neg_size, ci_neg]
  by_cases hs : signN x = signN y
  · rw [if_neg (by simp [hs]), if_neg (by simp [hs]), Int.neg_mul]
  · rw [if_pos (by omega), if_pos hs]
theorem cmp_neg_pos {a b : List UInt8} (ha : Lib.hasPrefix a [45] = false) (hb : Lib.hasPrefix b [45] = false) (la : a.length < 400) (lb : b.length < 400) (ga : goodN a = true) (gb : goodN b = true) : cmpN (45 :: a) b = -1 ∨ cmpN (45 :: a) b = 0 := by
  obtain ⟨x, hx⟩ := Option.isSome_iff_exists.1 ga
  obtain ⟨y, hy⟩ := Option.isSome_iff_exists.1 gb
  have hx1 := parse_pos ha hx
  have hy1 := parse_pos hb hy
  have h1 := sign_pos hx1.1
  have h2 := sign_pos hy1.1
  unfold cmpN
  rw [parse_neg ha la, hx, hy]
  show cmpNum (negN x) y = -1 ∨ cmpNum (negN x) y = 0
  unfold cmpNum
  rw [neg_sign hx1.1]
  by_cases hs : -signN x = signN y
  · rw [if_neg (by simp [hs])]
    have : signN x = 0 := by omega
    rw [this]; right; simp
  · rw [if_pos hs]
    left
    unfold Lib.compareInt
    rw [if_pos (by omega)]
theorem whole_neg {a : List UInt8} (ha : Lib.hasPrefix a [45] = false) (la : a.length < 400) : wholeN (45 :: a) = wholeN a := by
  unfold wholeN
  rw [parse_neg ha la]
  cases hx : parseN a with
  | none => rfl
  | some x =>
    show (decide ((negN x).2.1 = []) || decide ((((negN x).2.1.length : Int) - 1) ≤ (negN x).2.2)) = _
    rw [neg_parts.1, neg_parts.2]
end Go.Proofs.YtkdejdmmgjibmaaDoor
