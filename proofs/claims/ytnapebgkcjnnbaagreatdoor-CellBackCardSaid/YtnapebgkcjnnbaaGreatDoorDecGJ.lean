/-
  dec.Good, walked: what it computes, in plain Lean. No condition.
-/
import Derived.Test.YtnapebgkcjnnbaaGreatDoorDecShapeJ
import Derived.Test.YtnapebgkcjnnbaaGreatDoorShelf2J
import Derived.Lib.LaidTab
namespace Go.Proofs.YtnapebgkcjnnbaaGreatDoor
open Go.RowKit
set_option linter.unusedVariables false
set_option linter.unusedSimpArgs false
abbrev Num := Bool × List UInt8 × Int
def goodN (l : List UInt8) : Bool := (parseN l).isSome
def wholeN (l : List UInt8) : Bool := match parseN l with | none => false | some x => decide (x.2.1 = []) || decide (((x.2.1.length : Int) - 1) ≤ x.2.2)
def signN (x : Num) : Int := if x.2.1 = [] then 0 else if x.1 = true then -1 else 1
def sizeN (a b : Num) : Int := if a.2.2 ≠ b.2.2 then Lib.compareInt a.2.2 b.2.2 else Lib.compareBytes a.2.1 b.2.1
def cmpNum (x y : Num) : Int := if signN x ≠ signN y then Lib.compareInt (signN x) (signN y) else signN x * sizeN x y
def cmpN (a b : List UInt8) : Int := match parseN a, parseN b with
  | none, none => 0
  | none, some _ => -1
  | some _, none => 1
  | some x, some y => cmpNum x y
theorem parseV_none : parseV none = .tuple #[.agg #[.bool false, .string ⟨#[]⟩, .int .i64 0], .bool false] := rfl
theorem parseV_some (x : Num) : parseV (some x) = .tuple #[.agg #[.bool x.1, .string ⟨x.2.1.toArray⟩, .int .i64 x.2.2], .bool true] := rfl
set_option maxHeartbeats 1000000 in
theorem good_any (s : ByteArray) (w : World) : Calls Tryz.prog 19 #[.string s] w fun e w' => e = .returned (.bool (goodN s.data.toList)) ∧ Below w.heap.size w w' := by
  unfold goodN
  cases hp0 : parseN s.data.toList with
  | none =>
    have hp : parseV (parseN s.data.toList) = .tuple #[.agg #[.bool false, .string ⟨#[]⟩, .int .i64 0], .bool false] := by rw [hp0]; rfl
    go_enter Tryz.func19, Tryz.ntmps19
    go_wp2_with (go_at_call 32; refine (parse_any _ _).mono ?_; rintro e w1 ⟨rfl, hb1⟩; rw [hp]; have hbb := Lib.hid hb1; clear hb1)
    go_ret
    exact ⟨rfl, by (repeat (first | exact Below.refl _ _ | exact hbb.out | (refine Below.alloc ?_ (by first | exact Nat.le_refl _ | exact hbb.out.size | (have := hbb.out.size; simp; omega) | (simp; done)) _)))⟩
  | some x =>
    obtain ⟨b, D, p⟩ := x
    have hp : parseV (parseN s.data.toList) = .tuple #[.agg #[.bool b, .string ⟨D.toArray⟩, .int .i64 p], .bool true] := by rw [hp0]; rfl
    go_enter Tryz.func19, Tryz.ntmps19
    go_wp2_with (go_at_call 32; refine (parse_any _ _).mono ?_; rintro e w1 ⟨rfl, hb1⟩; rw [hp]; have hbb := Lib.hid hb1; clear hb1)
    go_ret
    exact ⟨rfl, by (repeat (first | exact Below.refl _ _ | exact hbb.out | (refine Below.alloc ?_ (by first | exact Nat.le_refl _ | exact hbb.out.size | (have := hbb.out.size; simp; omega) | (simp; done)) _)))⟩
end Go.Proofs.YtnapebgkcjnnbaaGreatDoor
