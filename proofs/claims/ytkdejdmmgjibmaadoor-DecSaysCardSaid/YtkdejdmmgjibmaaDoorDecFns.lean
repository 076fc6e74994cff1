/-
  dec.Good, Whole, Cmp, Canon, Text, Int, walked: what they compute, in plain Lean. Conditions: for Canon and Text the library's table of powers of ten; for Int what its two error variables hold.
-/
import Derived.Test.YtkdejdmmgjibmaaDoorDecShape
import Derived.Test.YtkdejdmmgjibmaaDoorShelf2
import Derived.Lib.LaidTab
namespace Go.Proofs.YtkdejdmmgjibmaaDoor
open Go.RowKit
set_option linter.unusedVariables false
set_option linter.unusedSimpArgs false
abbrev Num := Bool × List UInt8 × Int
def goodN (l : List UInt8) : Bool := (parseN l).isSome
def wholeN (l : List UInt8) : Bool := match parseN l with | none => false | some x => decide (x.2.1 = []) || decide (((x.2.1.length : Int) - 1) ≤ x.2.2)
def signN (x : Num) : Int := if x.2.1 = [] then 0 else if x.1 = true then -1 else 1
def sizeN (a b : Num) : Int := if a.2.2 ≠ b.2.2 then Lib.compareInt a.2.2 b.2.2 else Lib.compareBytes a.2.1 b.2.1
def cmpNum (x y : Num) : Int := if signN x ≠ signN y then Lib.compareInt (signN x) (signN y) else signN x * sizeN x y
def cmpN (a b : List UInt8) : Int := match parseN a, parseN b with
  | none, none => 0
  | none, some _ => -1
  | some _, none => 1
  | some x, some y => cmpNum x y
theorem parseV_none : parseV none = .tuple #[.agg #[.bool false, .string ⟨#[]⟩, .int .i64 0], .bool false] := rfl
theorem parseV_some (x : Num) : parseV (some x) = .tuple #[.agg #[.bool x.1, .string ⟨x.2.1.toArray⟩, .int .i64 x.2.2], .bool true] := rfl
set_option maxHeartbeats 1000000 in
theorem good_any (s : ByteArray) (w : World) : Calls Tryd.prog 12 #[.string s] w fun e w' => e = .returned (.bool (goodN s.data.toList)) ∧ Below w.heap.size w w' := by
  unfold goodN
  cases hp0 : parseN s.data.toList with
  | none =>
    have hp : parseV (parseN s.data.toList) = .tuple #[.agg #[.bool false, .string ⟨#[]⟩, .int .i64 0], .bool false] := by rw [hp0]; rfl
    go_enter Tryd.func12, Tryd.ntmps12
    go_wp2_with (go_at_call 24; refine (parse_any _ _).mono ?_; rintro e w1 ⟨rfl, hb1⟩; rw [hp]; have hbb := Lib.hid hb1; clear hb1)
    go_ret
    exact ⟨rfl, by (repeat (first | exact Below.refl _ _ | exact hbb.out | (refine Below.alloc ?_ (by first | exact Nat.le_refl _ | exact hbb.out.size | (have := hbb.out.size; simp; omega) | (simp; done)) _)))⟩
  | some x =>
    obtain ⟨b, D, p⟩ := x
    have hp : parseV (parseN s.data.toList) = .tuple #[.agg #[.bool b, .string ⟨D.toArray⟩, .int .i64 p], .bool true] := by rw [hp0]; rfl
    go_enter Tryd.func12, Tryd.ntmps12
    go_wp2_with (go_at_call 24; refine (parse_any _ _).mono ?_; rintro e w1 ⟨rfl, hb1⟩; rw [hp]; have hbb := Lib.hid hb1; clear hb1)
    go_ret
    exact ⟨rfl, by (repeat (first | exact Below.refl _ _ | exact hbb.out | (refine Below.alloc ?_ (by first | exact Nat.le_refl _ | exact hbb.out.size | (have := hbb.out.size; simp; omega) | (simp; done)) _)))⟩
set_option maxHeartbeats 1000000 in
theorem sign_any (b : Bool) (D : ByteArray) (p : Int) (w : World) : Calls Tryd.prog 26 #[.agg #[.bool b, .string D, .int .i64 p]] w fun e w' => e = .returned (.int .i64 (signN (b, D.data.toList, p))) ∧ Below w.heap.size w w' := by
  unfold signN
  by_cases hD : D.toList = []
  · have hie : D.toList.isEmpty = true := by simp [hD]
    have hD2 := hD
    rw [Lib.toList_data] at hD2
    rw [if_pos hD2]
    go_enter Tryd.func26, Tryd.ntmps26
    go_wp2
    go_ret
    exact ⟨rfl, by (repeat (first | exact Below.refl _ _ | exact hbb.out | (refine Below.alloc ?_ (by first | exact Nat.le_refl _ | exact hbb.out.size | (have := hbb.out.size; simp; omega) | (simp; done)) _)))⟩
  · have hie : D.toList.isEmpty = false := by simp [hD]
    have hD2 := hD
    rw [Lib.toList_data] at hD2
    rw [if_neg hD2]
    cases b
    · go_enter Tryd.func26, Tryd.ntmps26
      go_wp2
      go_ret
      exact ⟨rfl, by (repeat (first | exact Below.refl _ _ | exact hbb.out | (refine Below.alloc ?_ (by first | exact Nat.le_refl _ | exact hbb.out.size | (have := hbb.out.size; simp; omega) | (simp; done)) _)))⟩
    · go_enter Tryd.func26, Tryd.ntmps26
      go_wp2
      go_ret
      exact ⟨rfl, by (repeat (first | exact Below.refl _ _ | exact hbb.out | (refine Below.alloc ?_ (by first | exact Nat.le_refl _ | exact hbb.out.size | (have := hbb.out.size; simp; omega) | (simp; done)) _)))⟩
set_option maxHeartbeats 1000000 in
theorem whole_any (s : ByteArray) (w : World) : Calls Tryd.prog 17 #[.string s] w fun e w' => e = .returned (.bool (wholeN s.data.toList)) ∧ Below w.heap.size w w' := by
  unfold wholeN
  cases hp0 : parseN s.data.toList with
  | none =>
    have hp : parseV (parseN s.data.toList) = .tuple #[.agg #[.bool false, .string ⟨#[]⟩, .int .i64 0], .bool false] := by rw [hp0]; rfl
    go_enter Tryd.func17, Tryd.ntmps17
    go_wp2_with (go_at_call 24; refine (parse_any _ _).mono ?_; rintro e w1 ⟨rfl, hb1⟩; rw [hp]; have hbb := Lib.hid hb1; clear hb1)
    go_ret
    exact ⟨rfl, by (repeat (first | exact Below.refl _ _ | exact hbb.out | (refine Below.alloc ?_ (by first | exact Nat.le_refl _ | exact hbb.out.size | (have := hbb.out.size; simp; omega) | (simp; done)) _)))⟩
  | some x =>
    obtain ⟨b, D, p⟩ := x
    obtain ⟨T, hT⟩ : ∃ T : ByteArray, T = ⟨D.toArray⟩ := ⟨_, rfl⟩
    have hp : parseV (parseN s.data.toList) = .tuple #[.agg #[.bool b, .string T, .int .i64 p], .bool true] := by rw [hp0, hT]; rfl
    have hD : D = T.data.toList := by rw [hT]
    have hDs : D.length = T.size := by rw [hD, ← Lib.size_eq]
    have hTs : (T.size : Int) ≤ 800 := by rw [← hDs]; have := (parse_shape hp0).len; simp only at this; omega
    by_cases he : T.toList = []
    · have hie : T.toList.isEmpty = true := by simp [he]
      have h1 : D = [] := by rw [hD, ← Lib.toList_data]; exact he
      have hr : (decide (D = []) || decide (((D.length : Int) - 1) ≤ p)) = true := by simp [h1]
      show Calls _ _ _ _ fun e w' => e = .returned (.bool (decide (D = []) || decide (((D.length : Int) - 1) ≤ p))) ∧ _
      rw [hr]
      clear hr h1 hD hDs hT
      go_enter Tryd.func17, Tryd.ntmps17
      go_wp2_with (go_at_call 24; refine (parse_any _ _).mono ?_; rintro e w1 ⟨rfl, hb1⟩; rw [hp]; have hbb := Lib.hid hb1; clear hb1)
      go_ret
      exact ⟨rfl, by (repeat (first | exact Below.refl _ _ | exact hbb.out | (refine Below.alloc ?_ (by first | exact Nat.le_refl _ | exact hbb.out.size | (have := hbb.out.size; simp; omega) | (simp; done)) _)))⟩
    · have hie : T.toList.isEmpty = false := by simp [he]
      have h1 : ¬ D = [] := by rw [hD, ← Lib.toList_data]; exact he
      have hr : (decide (D = []) || decide (((D.length : Int) - 1) ≤ p)) = decide ((T.size : Int) - 1 ≤ p) := by simp [h1, hDs]
      show Calls _ _ _ _ fun e w' => e = .returned (.bool (decide (D = []) || decide (((D.length : Int) - 1) ≤ p))) ∧ _
      rw [hr]
      clear hr h1 hD hDs hT
      go_enter Tryd.func17, Tryd.ntmps17
      go_wp2_with (go_at_call 24; refine (parse_any _ _).mono ?_; rintro e w1 ⟨rfl, hb1⟩; rw [hp]; have hbb := Lib.hid hb1; clear hb1)
      go_ret
      exact ⟨rfl, by (repeat (first | exact Below.refl _ _ | exact hbb.out | (refine Below.alloc ?_ (by first | exact Nat.le_refl _ | exact hbb.out.size | (have := hbb.out.size; simp; omega) | (simp; done)) _)))⟩
set_option maxHeartbeats 1000000 in
theorem size_any (b1 b2 : Bool) (D1 D2 : ByteArray) (p1 p2 : Int) (w : World) : Calls Tryd.prog 28 #[.agg #[.bool b1, .string D1, .int .i64 p1], .agg #[.bool b2, .string D2, .int .i64 p2]] w fun e w' => e = .returned (.int .i64 (sizeN (b1, D1.data.toList, p1) (b2, D2.data.toList, p2))) ∧ Below w.heap.size w w' := by
  unfold sizeN
  by_cases he : p1 = p2
  · subst he
    rw [if_neg (by simp)]
    go_enter Tryd.func28, Tryd.ntmps28
    go_wp2_with (first | (go_at_call 45; refine (Tryd.strings_Compare _ _ _).mono ?_; rintro e w1 ⟨rfl, hw⟩; rw [hw]; clear hw) | (go_at_call 27; refine (Tryd.cmp_Compare_int _ _ _).mono ?_; rintro e w1 ⟨rfl, hw⟩; rw [hw]; clear hw))
    go_ret
    exact ⟨rfl, by (repeat (first | exact Below.refl _ _ | exact hbb.out | (refine Below.alloc ?_ (by first | exact Nat.le_refl _ | exact hbb.out.size | (have := hbb.out.size; simp; omega) | (simp; done)) _)))⟩
  · rw [if_pos (by simpa using he)]
    go_enter Tryd.func28, Tryd.ntmps28
    go_wp2_with (first | (go_at_call 45; refine (Tryd.strings_Compare _ _ _).mono ?_; rintro e w1 ⟨rfl, hw⟩; rw [hw]; clear hw) | (go_at_call 27; refine (Tryd.cmp_Compare_int _ _ _).mono ?_; rintro e w1 ⟨rfl, hw⟩; rw [hw]; clear hw))
    go_ret
    exact ⟨rfl, by (repeat (first | exact Below.refl _ _ | exact hbb.out | (refine Below.alloc ?_ (by first | exact Nat.le_refl _ | exact hbb.out.size | (have := hbb.out.size; simp; omega) | (simp; done)) _)))⟩
end Go.Proofs.YtkdejdmmgjibmaaDoor
