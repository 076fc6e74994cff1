/-
  The reference's reading of a number's text, in plain Lean, and that it is dec's. No condition.
-/
import Derived.Test.YtkdejdmmgjibmaaDoorRefPow
import Derived.Test.YtkdejdmmgjibmaaDoorDecNum
namespace Go.Proofs.YtkdejdmmgjibmaaDoor
set_option linter.unusedVariables false
set_option linter.unusedSimpArgs false
/-- May it stand behind an e: a sign or none, digits. -/
def formP (p : List UInt8) : Bool := decide (signed p ≠ []) && decide (digN (signed p) = (signed p).length)
/-- What stands behind the digits: nothing, or an e and what may stand there. -/
def tailN : List UInt8 → Option (List UInt8)
  | [] => some []
  | c :: p => if (c = 101 ∨ c = 69) ∧ formP p = true then some p else none
def partsN (l : List UInt8) : Option (Bool × List UInt8 × List UInt8 × List UInt8) :=
  if digN (Lib.trimPrefix l [45]) = 0 ∨ (1 < digN (Lib.trimPrefix l [45]) ∧ (Lib.trimPrefix l [45]).head? = some 48) then none else
  (partN ((Lib.trimPrefix l [45]).drop (digN (Lib.trimPrefix l [45])))).bind fun pr =>
  (tailN pr.2).map fun p => (Lib.hasPrefix l [45], (Lib.trimPrefix l [45]).take (digN (Lib.trimPrefix l [45])), pr.1, p)
theorem rAcc_digs {l : List UInt8} (h : digN l = l.length) (v : Nat) : rAcc v l = pwAcc v l := by
  induction l generalizing v with
  | nil => rfl
  | cons c l ih =>
    have hd := all_dig h 0 c rfl
    have hl : digN l = l.length := by rw [digN_cons, if_pos hd] at h; simpa using h
    unfold rAcc pwAcc
    rw [if_pos hd]
    split
    · rfl
    · exact ih hl _
theorem rpow_is {p : List UInt8} (h : formP p = true) : rpowN p = powerN p := by
  unfold formP at h
  simp only [Bool.and_eq_true, decide_eq_true_eq] at h
  obtain ⟨h1, h2⟩ := h
  have hr : rAcc 0 p = pwAcc 0 (signed p) := by
    rw [← rAcc_digs h2]
    unfold signed
    by_cases a : (Lib.hasPrefix p [45] || Lib.hasPrefix p [43]) = true
    · rw [if_pos a]
      cases p with
      | nil => simp [Lib.hasPrefix] at a
      | cons c p =>
        have hc : isDig c = false := by
          have : c = 45 ∨ c = 43 := by
            have a2 := a
            rw [Bool.or_eq_true] at a2
            rcases a2 with a | a
            · left; have : (45 : UInt8) = c := by simpa [Lib.hasPrefix] using a
              exact this.symm
            · right; have : (43 : UInt8) = c := by simpa [Lib.hasPrefix] using a
              exact this.symm
          rcases this with rfl | rfl <;> decide
        rw [rAcc, if_neg (by rw [hc]; simp)]; rfl
    · rw [if_neg a]
  unfold rpowN powerN
  rw [if_neg (by simp [h1, h2]), hr]
theorem powerN_form {p : List UInt8} (h : formP p = false) : powerN p = none := by
  unfold formP at h
  unfold powerN
  rw [if_pos]
  by_cases h1 : signed p = []
  · exact .inl h1
  · right; intro h2; simp [h1, h2] at h
/-- dec's reading, out of the reference's. -/
theorem parse_parts {l : List UInt8} (hl : l.length ≤ 400) : parseN l = (partsN l).bind fun q => (rpowN q.2.2.2).map fun e => normN q.1 q.2.1 q.2.2.1 e := by
  unfold parseN partsN
  rw [if_neg (by omega)]
  by_cases hc : digN (Lib.trimPrefix l [45]) = 0 ∨ (1 < digN (Lib.trimPrefix l [45]) ∧ (Lib.trimPrefix l [45]).head? = some 48)
  · rw [if_pos hc, if_pos hc]; rfl
  · rw [if_neg hc, if_neg hc]
    cases partN ((Lib.trimPrefix l [45]).drop (digN (Lib.trimPrefix l [45]))) with
    | none => rfl
    | some pr =>
      show (expN pr.2).map _ = ((tailN pr.2).map _).bind _
      cases hq : pr.2 with
      | nil => rfl
      | cons c p =>
        by_cases he : c = 101 ∨ c = 69
        · have e1 : expN (c :: p) = powerN p := if_pos he
          cases hf : formP p
          · have e2 : tailN (c :: p) = none := if_neg (by rw [hf]; simp)
            rw [e1, e2, powerN_form hf]; rfl
          · have e2 : tailN (c :: p) = some p := if_pos ⟨he, hf⟩
            rw [e1, e2, ← rpow_is hf]; rfl
        · have e1 : expN (c :: p) = none := if_neg he
          have e2 : tailN (c :: p) = none := if_neg (fun h => he h.1)
          rw [e1, e2]; rfl
end Go.Proofs.YtkdejdmmgjibmaaDoor
