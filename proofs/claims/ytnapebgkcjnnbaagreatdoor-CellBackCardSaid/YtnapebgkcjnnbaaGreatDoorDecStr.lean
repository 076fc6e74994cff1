/-
  Words for texts: a list of bytes as a text; digits at its head. No condition.
-/
import Derived.Test.YtnapebgkcjnnbaaGreatDoorProg
import Derived.WalkKit
import Derived.Lib.Strings
import Derived.Lib.TrimByte
import Derived.Below
namespace Go.Proofs.YtnapebgkcjnnbaaGreatDoor
open Go.RowKit
set_option linter.unusedVariables false
def isDig (c : UInt8) : Bool := decide (48 ≤ c.toNat) && decide (c.toNat ≤ 57)
/-- How many digits stand at the head. -/
def digN (l : List UInt8) : Nat := (l.takeWhile isDig).length
theorem digN_le (l : List UInt8) : digN l ≤ l.length := (List.takeWhile_prefix _).length_le
theorem digN_nil : digN [] = 0 := rfl
theorem digN_cons (c : UInt8) (l : List UInt8) : digN (c :: l) = if isDig c then digN l + 1 else 0 := by
  unfold digN; rw [List.takeWhile_cons]; split <;> simp_all
/-- All ahead of k are digits; k is the end or no digit. -/
theorem digN_is (l : List UInt8) (k : Nat) (hk : k ≤ l.length) (h : ∀ j b, j < k → l[j]? = some b → isDig b = true) (he : ∀ b, l[k]? = some b → isDig b = false) : digN l = k := by
  induction l generalizing k with
  | nil => simp at hk; simp [hk, digN]
  | cons c l ih =>
    rw [digN_cons]
    cases k with
    | zero => rw [if_neg (by rw [he c rfl]; decide)]
    | succ k =>
      rw [if_pos (h 0 c (by omega) rfl)]
      rw [ih k (by simpa using hk) (fun j b hj hb => h (j + 1) b (by omega) (by simpa using hb)) (fun b hb => he b (by simpa using hb))]
end Go.Proofs.YtnapebgkcjnnbaaGreatDoor
