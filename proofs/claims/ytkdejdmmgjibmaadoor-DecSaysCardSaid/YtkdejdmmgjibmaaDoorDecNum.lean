/-
  Whole numbers as texts, read back: plain Lean. No condition beside that the text is short enough.
-/
import Derived.Test.YtkdejdmmgjibmaaDoorDecLaws
namespace Go.Proofs.YtkdejdmmgjibmaaDoor
set_option linter.unusedVariables false
set_option linter.unusedSimpArgs false
theorem cmp_same {a b : List UInt8} (h : parseN a = parseN b) : cmpN a b = 0 := by
  have h1 := cmp_anti a b
  have h2 : cmpN b a = cmpN a b := by unfold cmpN; rw [h]
  omega
theorem digN_app {D T : List UInt8} (hd : ∀ c ∈ D, isDig c = true) (hT : ∀ c, T.head? = some c → isDig c = false) : digN (D ++ T) = D.length := by
  induction D with
  | nil =>
    cases T with
    | nil => rfl
    | cons c T => rw [List.nil_append, digN_cons, if_neg (by rw [hT c rfl]; simp)]; rfl
  | cons d D ih =>
    rw [List.cons_append, digN_cons, if_pos (hd d (by simp)), ih (fun c hc => hd c (List.mem_cons_of_mem _ hc))]
    rfl
def minus (b : Bool) : List UInt8 := if b = true then [45] else []
theorem dig_not_minus {c : UInt8} (h : isDig c = true) : c ≠ 45 := fun e => by subst e; simp [isDig] at h
theorem parse_lit (b : Bool) {D T : List UInt8} (hd : ∀ c ∈ D, isDig c = true) (hne : D ≠ []) (hlead : 1 < D.length → D.head? ≠ some 48) (hT : ∀ c, T.head? = some c → isDig c = false) (hlen : 1 + D.length + T.length ≤ 400) :
    parseN (minus b ++ (D ++ T)) = (partN T).bind fun pr => (expN pr.2).map fun e => normN b D pr.1 e := by
  have hdn := digN_app hd hT
  have hpos : 0 < D.length := List.length_pos_iff.2 hne
  obtain ⟨d, ds, hD⟩ : ∃ d ds, D = d :: ds := by
    cases D with
    | nil => exact absurd rfl hne
    | cons d ds => exact ⟨d, ds, rfl⟩
  have hd45 := dig_not_minus (hd d (by rw [hD]; simp))
  have h1 : Lib.hasPrefix (minus b ++ (D ++ T)) [45] = b := by
    cases b
    · have h45 := Ne.symm hd45
      have hb : ((45 : UInt8) == d) = false := by simpa using h45
      simp [minus, hD, Lib.hasPrefix, List.isPrefixOf, hb]
    · simp [minus, Lib.hasPrefix]
  have h2 : Lib.trimPrefix (minus b ++ (D ++ T)) [45] = D ++ T := by
    unfold Lib.trimPrefix
    rw [h1]
    cases b <;> simp [minus]
  have h3 : ¬ 400 < (minus b ++ (D ++ T)).length := by
    simp only [List.length_append]
    have : (minus b).length ≤ 1 := by unfold minus; split <;> simp
    omega
  unfold parseN
  rw [if_neg h3, h2, h1, hdn, List.take_left, List.drop_left]
  rw [if_neg ?_]
  rintro (h | ⟨h, h'⟩)
  · omega
  · refine hlead h ?_
    rw [hD] at h' ⊢
    simpa using h'
/-- Noughts behind: cut off at the right. -/
theorem trimR_zeros (l : List UInt8) (k : Nat) : Lib.trimRightB (l ++ List.replicate k 48) 48 = Lib.trimRightB l 48 := by
  induction k with
  | zero => simp
  | succ k ih =>
    rw [List.replicate_succ', ← List.append_assoc, ← ih]
    unfold Lib.trimRightB
    rw [List.reverse_append, List.reverse_singleton, List.singleton_append, List.dropWhile_cons, if_pos (by decide)]
theorem trimL_all (k : Nat) : Lib.trimLeftB (List.replicate k 48) 48 = [] := by
  induction k with
  | zero => rfl
  | succ k ih => rw [List.replicate_succ]; unfold Lib.trimLeftB at ih ⊢; rw [List.dropWhile_cons, if_pos (by decide)]; exact ih
theorem trimL_head {l : List UInt8} (h : l.head? ≠ some 48) : Lib.trimLeftB l 48 = l := by
  cases l with
  | nil => rfl
  | cons a l =>
    unfold Lib.trimLeftB
    rw [List.dropWhile_cons, if_neg]
    intro e
    simp at e
    exact h (by rw [e]; rfl)
structure Lit (D : List UInt8) : Prop where
  dig : ∀ c ∈ D, isDig c = true
  ne : D ≠ []
  lead : 1 < D.length → D.head? ≠ some 48
theorem Lit.cases {D : List UInt8} (h : Lit D) : D = [48] ∨ D.head? ≠ some 48 := by
  by_cases h0 : D.head? = some 48
  · left
    cases hD : D with
    | nil => exact absurd hD h.ne
    | cons d ds =>
      rw [hD] at h0
      have hd : d = 48 := by simpa using h0
      have hl : ¬ 1 < D.length := fun h1 => h.lead h1 (by rw [hD, hd]; rfl)
      rw [hD] at hl
      have : ds = [] := by simpa using hl
      rw [this, hd]
  · exact .inr h0
theorem head_app {D l : List UInt8} (hne : D ≠ []) (h : D.head? ≠ some 48) : (D ++ l).head? ≠ some 48 := by
  cases D with
  | nil => exact absurd rfl hne
  | cons d ds => simpa using h
theorem norm_zeros (b : Bool) {D : List UInt8} (h : Lit D) (k : Nat) (e : Int) : normN b D (List.replicate k 48) e = normN b D [] e := by
  rcases h.cases with h0 | h0
  · have h1 : Lib.trimLeftB (D ++ List.replicate k 48) 48 = [] := by rw [h0]; exact trimL_all (k + 1)
    have h2 : Lib.trimLeftB (D ++ []) 48 = [] := by rw [h0]; rfl
    unfold normN; rw [if_pos h1, if_pos h2]
  · have h1 := trimL_head (head_app (l := List.replicate k 48) h.ne h0)
    have h2 : Lib.trimLeftB (D ++ []) 48 = D := by rw [List.append_nil]; exact trimL_head h0
    unfold normN
    rw [h1, h2, if_neg (by simp [h.ne]), if_neg h.ne, trimR_zeros]
    simp only [List.length_append, List.length_replicate, List.length_nil]
    congr 2; omega
theorem norm_more (b : Bool) {D : List UInt8} (h : Lit D) (h0 : D.head? ≠ some 48) (k : Nat) (e : Int) : normN b (D ++ List.replicate k 48) [] e = normN b D [] (e + k) := by
  have h1 : Lib.trimLeftB ((D ++ List.replicate k 48) ++ []) 48 = D ++ List.replicate k 48 := by rw [List.append_nil]; exact trimL_head (head_app h.ne h0)
  have h2 : Lib.trimLeftB (D ++ []) 48 = D := by rw [List.append_nil]; exact trimL_head h0
  unfold normN
  rw [h1, h2, if_neg (by simp [h.ne]), if_neg h.ne, trimR_zeros]
  simp only [List.length_append, List.length_replicate, List.length_nil]
  congr 2; omega
theorem dec_lit (u : Nat) : Lit (Lib.decDigits u) ∧ (u ≠ 0 → (Lib.decDigits u).head? ≠ some 48) := by
  have key : ∀ u, u ≠ 0 → (Lib.decDigits u).head? ≠ some 48 := fun u => by
    induction u using Nat.strongRecOn with
    | ind u ih =>
      intro h0
      rw [Lib.decDigits]
      split
      · rename_i h
        simp only [List.head?_cons, ne_eq, Option.some.injEq]
        intro e
        have := congrArg UInt8.toNat e
        rw [dig_nat h] at this
        have : 48 + u = 48 := this
        omega
      · rename_i h
        exact head_app (dec_facts (u / 10)).2.2 (ih (u / 10) (by omega) (by omega))
  refine ⟨⟨(dec_facts u).2.1, (dec_facts u).2.2, fun hl => ?_⟩, key u⟩
  by_cases h : u = 0
  · subst h; rw [Lib.decDigits_one (by omega)] at hl; simp at hl
  · exact key u h
theorem itoa_is (n : Int) : Lib.itoa n = minus (decide (n < 0)) ++ Lib.decDigits n.natAbs := by
  unfold Lib.itoa minus
  by_cases h : n < 0
  · rw [if_pos h, if_pos (by simp [h])]; rfl
  · rw [if_neg h, if_neg (by simp [h]), List.nil_append]
    congr 1; omega
abbrev numD (n : Int) : List UInt8 := Lib.decDigits n.natAbs
/-- What an int's text says, with a tail. -/
theorem itoa_tail (n : Int) {T : List UInt8} (hT : ∀ c, T.head? = some c → isDig c = false) (hlen : 1 + (numD n).length + T.length ≤ 400) :
    parseN (Lib.itoa n ++ T) = (partN T).bind fun pr => (expN pr.2).map fun e => normN (decide (n < 0)) (numD n) pr.1 e := by
  rw [itoa_is, List.append_assoc]
  obtain ⟨h, _⟩ := dec_lit n.natAbs
  exact parse_lit _ h.dig h.ne h.lead hT hlen
def numOf (n : Int) (e : Int) : Num := normN (decide (n < 0)) (numD n) [] e
theorem parse_itoa {n : Int} (hl : (numD n).length ≤ 300) : parseN (Lib.itoa n) = some (numOf n 0) := by
  have h := itoa_tail n (T := []) (fun c hc => by cases hc) (by simp; omega)
  rw [List.append_nil] at h
  rw [h]; rfl
theorem parse_00 {n : Int} (hl : (numD n).length ≤ 300) : parseN (Lib.itoa n ++ [46, 48, 48]) = some (numOf n 0) := by
  rw [itoa_tail n (fun c hc => by simp at hc; subst hc; decide) (by simp; omega)]
  have hp : partN [46, 48, 48] = some ([48, 48], []) := by kernel_rfl
  rw [hp]
  show some (normN (decide (n < 0)) (numD n) (List.replicate 2 48) 0) = _
  rw [norm_zeros _ (dec_lit _).1]; rfl
theorem parse_e0 {n : Int} (hl : (numD n).length ≤ 300) : parseN (Lib.itoa n ++ [101, 48]) = some (numOf n 0) := by
  rw [itoa_tail n (fun c hc => by simp at hc; subst hc; decide) (by simp; omega)]
  have hp : partN [101, 48] = some ([], [101, 48]) := by kernel_rfl
  have he : expN [101, 48] = some 0 := by kernel_rfl
  rw [hp]
  show (expN [101, 48]).map _ = _
  rw [he]; rfl
theorem parse_5 {n : Int} (hl : (numD n).length ≤ 300) : parseN (Lib.itoa n ++ [46, 53, 101, 49]) = parseN (Lib.itoa n ++ [46, 53, 69, 43, 49]) := by
  rw [itoa_tail n (fun c hc => by simp at hc; subst hc; decide) (by simp; omega), itoa_tail n (fun c hc => by simp at hc; subst hc; decide) (by simp; omega)]
  have hp : partN [46, 53, 101, 49] = some ([53], [101, 49]) := by kernel_rfl
  have hp2 : partN [46, 53, 69, 43, 49] = some ([53], [69, 43, 49]) := by kernel_rfl
  have he : expN [101, 49] = some 1 := by kernel_rfl
  have he2 : expN [69, 43, 49] = some 1 := by kernel_rfl
  rw [hp, hp2]
  show (expN [101, 49]).map _ = (expN [69, 43, 49]).map _
  rw [he, he2]
theorem whole_itoa {n : Int} (hl : (numD n).length ≤ 300) : wholeN (Lib.itoa n) = true := by
  unfold wholeN
  rw [parse_itoa hl]
  show (decide ((numOf n 0).2.1 = []) || decide ((((numOf n 0).2.1.length : Int) - 1) ≤ (numOf n 0).2.2)) = true
  have h := (dec_lit n.natAbs)
  rcases h.1.cases with h0 | h0
  · have : numOf n 0 = (false, [], 0) := by unfold numOf normN; rw [show numD n = [48] from h0]; rfl
    rw [this]; rfl
  · have h2 : Lib.trimLeftB (numD n ++ []) 48 = numD n := by rw [List.append_nil]; exact trimL_head h0
    have e : numOf n 0 = (decide (n < 0), Lib.trimRightB (numD n) 48, 0 + (((numD n).length : Int) - 1 - (((numD n ++ []).length : Int) - ((numD n).length : Int)))) := by
      unfold numOf normN; rw [h2, if_neg h.1.ne]
    rw [e]
    obtain ⟨t, ht⟩ := trimRight_pre (numD n) 48
    have hlen := congrArg List.length ht
    rw [List.length_append] at hlen
    simp only [List.length_append, List.length_nil, Bool.or_eq_true, decide_eq_true_eq]
    right; omega
end Go.Proofs.YtkdejdmmgjibmaaDoor
