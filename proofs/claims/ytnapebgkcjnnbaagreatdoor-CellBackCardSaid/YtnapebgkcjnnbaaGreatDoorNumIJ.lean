/-
  A whole number's text is read back as that number, in plain Lean. No condition.
-/
import Derived.Test.YtnapebgkcjnnbaaGreatDoorRNumJ
import Derived.Lib.ItoaLen
namespace Go.Proofs.YtnapebgkcjnnbaaGreatDoor
set_option linter.unusedVariables false
set_option linter.unusedSimpArgs false
/-- The number that digits say. -/
def digVal (l : List UInt8) : Nat := l.foldl (fun a c => a * 10 + (c.toNat - 48)) 0
theorem digVal_snoc (l : List UInt8) (c : UInt8) : digVal (l ++ [c]) = digVal l * 10 + (c.toNat - 48) := by simp [digVal]
theorem dig_nat {k : Nat} (h : k < 10) : (UInt8.ofNat (48 + k)).toNat = 48 + k := by simp; omega
theorem dec_facts (u : Nat) : digVal (Lib.decDigits u) = u ∧ (∀ c ∈ Lib.decDigits u, isDig c = true) ∧ Lib.decDigits u ≠ [] := by
  induction u using Nat.strongRecOn with
  | ind u ih =>
    rw [Lib.decDigits]
    split
    · rename_i h
      refine ⟨by simp [digVal]; omega, fun c hc => ?_, by simp⟩
      obtain rfl := List.mem_singleton.1 hc
      simp only [isDig, dig_nat h]; simp; omega
    · rename_i h
      obtain ⟨i1, i2, i3⟩ := ih (u / 10) (by omega)
      refine ⟨by rw [digVal_snoc, i1, dig_nat (by omega)]; omega, fun c hc => ?_, by simp⟩
      rcases List.mem_append.1 hc with hc | hc
      · exact i2 c hc
      · obtain rfl := List.mem_singleton.1 hc
        have hm : u % 10 < 10 := by omega
        simp only [isDig, dig_nat hm]; simp; omega
theorem dec_not_minus (u : Nat) (l : List UInt8) : Lib.decDigits u ≠ 45 :: l := fun h => by
  have := (dec_facts u).2.1 45 (by rw [h]; simp)
  simp [isDig] at this
theorem digN_app {D T : List UInt8} (hd : ∀ c ∈ D, isDig c = true) (hT : ∀ c, T.head? = some c → isDig c = false) : digN (D ++ T) = D.length := by
  induction D with
  | nil =>
    cases T with
    | nil => rfl
    | cons c T => rw [List.nil_append, digN_cons, if_neg (by rw [hT c rfl]; simp)]; rfl
  | cons d D ih =>
    rw [List.cons_append, digN_cons, if_pos (hd d (by simp)), ih (fun c hc => hd c (List.mem_cons_of_mem _ hc))]
    rfl
theorem dig_not_minus {c : UInt8} (h : isDig c = true) : c ≠ 45 := fun e => by subst e; simp [isDig] at h
theorem parse_lit (b : Bool) {D T : List UInt8} (hd : ∀ c ∈ D, isDig c = true) (hne : D ≠ []) (hlead : 1 < D.length → D.head? ≠ some 48) (hT : ∀ c, T.head? = some c → isDig c = false) (hlen : 1 + D.length + T.length ≤ 400) :
    parseN (minus b ++ (D ++ T)) = (partN T).bind fun pr => (expN pr.2).map fun e => normN b D pr.1 e := by
  have hdn := digN_app hd hT
  have hpos : 0 < D.length := List.length_pos_iff.2 hne
  obtain ⟨d, ds, hD⟩ : ∃ d ds, D = d :: ds := by
    cases D with
    | nil => exact absurd rfl hne
    | cons d ds => exact ⟨d, ds, rfl⟩
  have hd45 := dig_not_minus (hd d (by rw [hD]; simp))
  have h1 : Lib.hasPrefix (minus b ++ (D ++ T)) [45] = b := by
    cases b
    · have h45 := Ne.symm hd45
      have hb : ((45 : UInt8) == d) = false := by simpa using h45
      simp [minus, hD, Lib.hasPrefix, List.isPrefixOf, hb]
    · simp [minus, Lib.hasPrefix]
  have h2 : Lib.trimPrefix (minus b ++ (D ++ T)) [45] = D ++ T := by
    unfold Lib.trimPrefix
    rw [h1]
    cases b <;> simp [minus]
  have h3 : ¬ 400 < (minus b ++ (D ++ T)).length := by
    simp only [List.length_append]
    have : (minus b).length ≤ 1 := by unfold minus; split <;> simp
    omega
  unfold parseN
  rw [if_neg h3, h2, h1, hdn, List.take_left, List.drop_left]
  rw [if_neg ?_]
  rintro (h | ⟨h, h'⟩)
  · omega
  · refine hlead h ?_
    rw [hD] at h' ⊢
    simpa using h'
structure Lit (D : List UInt8) : Prop where
  dig : ∀ c ∈ D, isDig c = true
  ne : D ≠ []
  lead : 1 < D.length → D.head? ≠ some 48
theorem head_app {D l : List UInt8} (hne : D ≠ []) (h : D.head? ≠ some 48) : (D ++ l).head? ≠ some 48 := by
  cases D with
  | nil => exact absurd rfl hne
  | cons d ds => simpa using h
theorem dec_lit (u : Nat) : Lit (Lib.decDigits u) ∧ (u ≠ 0 → (Lib.decDigits u).head? ≠ some 48) := by
  have key : ∀ u, u ≠ 0 → (Lib.decDigits u).head? ≠ some 48 := fun u => by
    induction u using Nat.strongRecOn with
    | ind u ih =>
      intro h0
      rw [Lib.decDigits]
      split
      · rename_i h
        simp only [List.head?_cons, ne_eq, Option.some.injEq]
        intro e
        have := congrArg UInt8.toNat e
        rw [dig_nat h] at this
        have : 48 + u = 48 := this
        omega
      · rename_i h
        exact head_app (dec_facts (u / 10)).2.2 (ih (u / 10) (by omega) (by omega))
  refine ⟨⟨(dec_facts u).2.1, (dec_facts u).2.2, fun hl => ?_⟩, key u⟩
  by_cases h : u = 0
  · subst h; rw [Lib.decDigits_one (by omega)] at hl; simp at hl
  · exact key u h
theorem itoa_is (n : Int) : Lib.itoa n = minus (decide (n < 0)) ++ Lib.decDigits n.natAbs := by
  unfold Lib.itoa minus
  by_cases h : n < 0
  · rw [if_pos h, if_pos (by simp [h])]; rfl
  · rw [if_neg h, if_neg (by simp [h]), List.nil_append]
    congr 1; omega
abbrev numD (n : Int) : List UInt8 := Lib.decDigits n.natAbs
/-- What an int's text says, with a tail. -/
theorem itoa_tail (n : Int) {T : List UInt8} (hT : ∀ c, T.head? = some c → isDig c = false) (hlen : 1 + (numD n).length + T.length ≤ 400) :
    parseN (Lib.itoa n ++ T) = (partN T).bind fun pr => (expN pr.2).map fun e => normN (decide (n < 0)) (numD n) pr.1 e := by
  rw [itoa_is, List.append_assoc]
  obtain ⟨h, _⟩ := dec_lit n.natAbs
  exact parse_lit _ h.dig h.ne h.lead hT hlen
def numOf (n : Int) (e : Int) : Num := normN (decide (n < 0)) (numD n) [] e
theorem parse_itoa {n : Int} (hl : (numD n).length ≤ 300) : parseN (Lib.itoa n) = some (numOf n 0) := by
  have h := itoa_tail n (T := []) (fun c hc => by cases hc) (by simp; omega)
  rw [List.append_nil] at h
  rw [h]; rfl
theorem parseInt_itoa {n : Int} (h0 : -9223372036854775808 ≤ n) (h1 : n ≤ 9223372036854775807) : Lib.parseIntB 64 (Lib.itoa n) = .ok n := by
  have hd := dec_lit n.natAbs
  have hv : digVal (numD n) = n.natAbs := (dec_facts _).1
  have hu : Lib.parseUintB 64 (numD n) = .ok n.natAbs := by
    unfold Lib.parseUintB
    rw [if_neg hd.1.ne]
    have := uint_is hd.1.dig 0 (show digVal (numD n) ≤ _ by omega)
    rw [← hv]
    exact this
  rw [itoa_is]
  by_cases hn : n < 0
  · have hm : minus (decide (n < 0)) = [45] := by simp [minus, hn]
    rw [hm]
    show Lib.parseIntB 64 (45 :: numD n) = _
    unfold Lib.parseIntB
    simp only [show (45 : UInt8).toNat = 45 from rfl]
    rw [if_pos (.inr trivial), hu]
    simp only [not_true_eq_false, false_and, if_false, true_and, if_true]
    rw [if_neg (by omega)]
    congr 1; omega
  · have hm : minus (decide (n < 0)) = [] := by simp [minus, hn]
    rw [hm, List.nil_append]
    cases hq : Lib.decDigits n.natAbs with
    | nil => exact absurd hq hd.1.ne
    | cons c r =>
      have hc := dig_range (hd.1.dig c (by rw [hq]; simp))
      unfold Lib.parseIntB
      simp only
      have e45 : ¬ c.toNat = 45 := by omega
      rw [if_neg (by omega), ← hq, show Lib.decDigits n.natAbs = numD n from rfl, hu]
      simp only [e45, not_false_eq_true, true_and, false_and, if_false]
      rw [if_neg (by omega)]
      congr 1; omega
theorem int_itoa {n : Int} (h0 : -9223372036854775808 ≤ n) (h1 : n ≤ 9223372036854775807) (hl : (numD n).length ≤ 300) : intN (Lib.itoa n) = some n := by
  have hd := dec_lit n.natAbs
  unfold intN
  rw [if_pos ?_, parseInt_itoa h0 h1]
  refine ⟨by unfold goodN; rw [parse_itoa hl]; rfl, noAny fun c hc => ?_, fun e => ?_⟩
  · rw [itoa_is] at hc
    rcases List.mem_append.1 hc with hc | hc
    · unfold minus at hc
      split at hc
      · obtain rfl := List.mem_singleton.1 hc; decide
      · cases hc
    · have := dig_range (hd.1.dig c hc)
      cases hk : ([46, 101, 69] : List UInt8).contains c
      · rfl
      · simp at hk
        rcases hk with rfl | rfl | rfl <;> simp at this
  · rw [itoa_is] at e
    by_cases hn : n < 0
    · have hm : minus (decide (n < 0)) = [45] := by simp [minus, hn]
      rw [hm] at e
      have e2 : Lib.decDigits n.natAbs = [48] := by simpa using e
      exact hd.2 (by omega) (by rw [e2]; rfl)
    · have hm : minus (decide (n < 0)) = [] := by simp [minus, hn]
      rw [hm, List.nil_append] at e
      exact dec_not_minus _ _ e
theorem itoa_short (n : Int) (h0 : -9223372036854775808 ≤ n) (h1 : n ≤ 9223372036854775807) : (Lib.itoa n).length ≤ 21 ∧ (numD n).length ≤ 300 := by
  have h := Lib.itoa_length_le n h0 h1
  refine ⟨h, ?_⟩
  rw [itoa_is, List.length_append] at h
  show (Lib.decDigits n.natAbs).length ≤ 300
  omega
end Go.Proofs.YtnapebgkcjnnbaaGreatDoor
