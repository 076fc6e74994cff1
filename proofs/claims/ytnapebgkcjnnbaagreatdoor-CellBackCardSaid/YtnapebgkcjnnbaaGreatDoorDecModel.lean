/-
  What dec reads out of a text, in plain Lean. No condition.
-/
import Derived.Test.YtnapebgkcjnnbaaGreatDoorDecStr
import Derived.Lib.TrimByte
namespace Go.Proofs.YtnapebgkcjnnbaaGreatDoor
set_option linter.unusedVariables false
/-- Digits as a number, as long as it is at most 100000. -/
def pwAcc (v : Nat) : List UInt8 → Option Nat
  | [] => some v
  | c :: l => if 100000 < v * 10 + (c.toNat - 48) then none else pwAcc (v * 10 + (c.toNat - 48)) l
def signed (l : List UInt8) : List UInt8 := if (Lib.hasPrefix l [45] || Lib.hasPrefix l [43]) = true then l.drop 1 else l
/-- What stands behind an e. -/
def powerN (l : List UInt8) : Option Int :=
  if signed l = [] ∨ digN (signed l) ≠ (signed l).length then none else (pwAcc 0 (signed l)).map fun v => if Lib.hasPrefix l [45] = true then -(v : Int) else v
/-- What stands behind a dot: digits, and the rest. -/
def partN (l : List UInt8) : Option (List UInt8 × List UInt8) :=
  if Lib.hasPrefix l [46] = true then (if digN (l.drop 1) = 0 then none else some ((l.drop 1).take (digN (l.drop 1)), l.drop (digN (l.drop 1) + 1))) else some ([], l)
def expN : List UInt8 → Option Int
  | [] => some 0
  | c :: r => if c = 101 ∨ c = 69 then powerN r else none
/-- Sign, digits, power, of what the three parts say. -/
def normN (less : Bool) (whole part : List UInt8) (exp : Int) : Bool × List UInt8 × Int :=
  if Lib.trimLeftB (whole ++ part) 48 = [] then (false, [], 0)
  else (less, Lib.trimRightB (Lib.trimLeftB (whole ++ part) 48) 48, exp + ((whole.length : Int) - 1 - (((whole ++ part).length : Int) - ((Lib.trimLeftB (whole ++ part) 48).length : Int))))
/-- A number's text, read. -/
def parseN (l : List UInt8) : Option (Bool × List UInt8 × Int) :=
  if 400 < l.length then none else
  if digN (Lib.trimPrefix l [45]) = 0 ∨ (1 < digN (Lib.trimPrefix l [45]) ∧ (Lib.trimPrefix l [45]).head? = some 48) then none else
  (partN ((Lib.trimPrefix l [45]).drop (digN (Lib.trimPrefix l [45])))).bind fun pr =>
  (expN pr.2).map fun exp => normN (Lib.hasPrefix l [45]) ((Lib.trimPrefix l [45]).take (digN (Lib.trimPrefix l [45]))) pr.1 exp
theorem all_dig {l : List UInt8} (h : digN l = l.length) (j : Nat) (b : UInt8) (hb : l[j]? = some b) : isDig b = true := by
  induction l generalizing j with
  | nil => simp at hb
  | cons c l ih =>
    rw [digN_cons] at h
    split at h
    · cases j with
      | zero => simp at hb; subst hb; assumption
      | succ j => exact ih (by simpa using h) j (by simpa using hb)
    · simp at h
/-- The next of the bytes that are left: a digit; what is counted with it. -/
theorem dig_next {l : List UInt8} (h : digN l = l.length) {k : Nat} (hk : k < l.length) : ∃ c : Nat, (l.getD k 0).toNat = c ∧ 48 ≤ (c : Int) ∧ (c : Int) ≤ 57 ∧
    ∀ a, pwAcc a (l.drop k) = if 100000 < a * 10 + (c - 48) then none else pwAcc (a * 10 + (c - 48)) (l.drop (k + 1)) := by
  have hk2 : l[k]? = some l[k] := List.getElem?_eq_getElem hk
  have hd := all_dig h k _ hk2
  simp [isDig] at hd
  refine ⟨l[k].toNat, by simp [List.getD_eq_getElem?_getD, hk2], by omega, by omega, fun a => ?_⟩
  rw [List.drop_eq_getElem_cons hk]
  rfl
theorem pwAcc_end (a : Nat) {l : List UInt8} {k : Nat} (hk : l.length ≤ k) : pwAcc a (l.drop k) = some a := by rw [List.drop_of_length_le hk]; rfl
end Go.Proofs.YtnapebgkcjnnbaaGreatDoor
