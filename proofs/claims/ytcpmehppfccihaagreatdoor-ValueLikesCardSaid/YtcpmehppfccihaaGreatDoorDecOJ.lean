/-
  The order of numbers, in plain Lean, where the dump holds no more of dec: turned round it turns; alike goes on. No condition.
-/
import Derived.Test.YtcpmehppfccihaaGreatDoorDecCJ
namespace Go.Proofs.YtcpmehppfccihaaGreatDoor
set_option linter.unusedVariables false
set_option linter.unusedSimpArgs false
theorem ci_anti (a b : Int) : Lib.compareInt b a = -Lib.compareInt a b := by
  unfold Lib.compareInt; (repeat' split) <;> omega
theorem ci_zero {a b : Int} (h : Lib.compareInt a b = 0) : a = b := by
  unfold Lib.compareInt at h; (repeat' split at h) <;> omega
theorem ci_trans {a b c v : Int} (h1 : Lib.compareInt a b = v) (h2 : Lib.compareInt b c = v) : Lib.compareInt a c = v := by
  unfold Lib.compareInt at *; (repeat' split at h1) <;> (repeat' split at h2) <;> (repeat' split) <;> omega
theorem cb_cons (a b : UInt8) (al bl : List UInt8) : Lib.compareBytes (a :: al) (b :: bl) = if a.toNat < b.toNat then -1 else if b.toNat < a.toNat then 1 else Lib.compareBytes al bl := rfl
theorem cb_anti (a b : List UInt8) : Lib.compareBytes b a = -Lib.compareBytes a b := by
  induction a generalizing b with
  | nil => cases b <;> simp [Lib.compareBytes]
  | cons x a ih =>
    cases b with
    | nil => simp [Lib.compareBytes]
    | cons y b =>
      rw [cb_cons, cb_cons]
      (repeat' split) <;> first | omega | exact ih b
theorem cb_zero {a b : List UInt8} (h : Lib.compareBytes a b = 0) : a = b := by
  induction a generalizing b with
  | nil => cases b with
    | nil => rfl
    | cons y b => simp [Lib.compareBytes] at h
  | cons x a ih =>
    cases b with
    | nil => simp [Lib.compareBytes] at h
    | cons y b =>
      rw [cb_cons] at h
      split at h
      · omega
      · split at h
        · omega
        · rw [ih h, UInt8.toNat_inj.1 (show x.toNat = y.toNat by omega)]
theorem cb_self (a : List UInt8) : Lib.compareBytes a a = 0 := by
  induction a with
  | nil => rfl
  | cons x a ih => rw [cb_cons, if_neg (by omega), if_neg (by omega), ih]
theorem cb_trans {a b c : List UInt8} {v : Int} (h1 : Lib.compareBytes a b = v) (h2 : Lib.compareBytes b c = v) : Lib.compareBytes a c = v := by
  induction a generalizing b c with
  | nil =>
    cases b with
    | nil => exact h2
    | cons y b =>
      cases c with
      | nil => simp [Lib.compareBytes] at h1 h2; omega
      | cons z c => simpa [Lib.compareBytes] using h1
  | cons x a ih =>
    cases b with
    | nil =>
      cases c with
      | nil => exact h1
      | cons z c => simp [Lib.compareBytes] at h1 h2; omega
    | cons y b =>
      cases c with
      | nil => simpa [Lib.compareBytes] using h2
      | cons z c =>
        rw [cb_cons] at h1 h2 ⊢
        by_cases e1 : x.toNat < y.toNat
        · rw [if_pos e1] at h1
          by_cases e2 : y.toNat < z.toNat
          · rw [if_pos (by omega)]; exact h1
          · rw [if_neg e2] at h2
            by_cases e3 : z.toNat < y.toNat
            · rw [if_pos e3] at h2; omega
            · rw [if_pos (by omega)]; exact h1
        · rw [if_neg e1] at h1
          by_cases e1' : y.toNat < x.toNat
          · rw [if_pos e1'] at h1
            by_cases e2 : y.toNat < z.toNat
            · rw [if_pos e2] at h2; omega
            · rw [if_neg e2] at h2
              rw [if_neg (by omega), if_pos (by omega)]; exact h1
          · rw [if_neg e1'] at h1
            by_cases e2 : y.toNat < z.toNat
            · rw [if_pos e2] at h2; rw [if_pos (by omega)]; exact h2
            · rw [if_neg e2] at h2
              by_cases e3 : z.toNat < y.toNat
              · rw [if_pos e3] at h2; rw [if_neg (by omega), if_pos (by omega)]; exact h2
              · rw [if_neg e3] at h2
                rw [if_neg (by omega), if_neg (by omega)]
                exact ih h1 h2
theorem size_anti (x y : Num) : sizeN y x = -sizeN x y := by
  unfold sizeN
  by_cases h : x.2.2 = y.2.2
  · rw [if_neg (by simp [h]), if_neg (by simp [h]), cb_anti]
  · rw [if_pos h, if_pos (fun e => h e.symm), ci_anti]
theorem ci_ne {a b : Int} (h : a ≠ b) : Lib.compareInt a b ≠ 0 := fun e => h (ci_zero e)
theorem size_trans {x y z : Num} {v : Int} (h1 : sizeN x y = v) (h2 : sizeN y z = v) : sizeN x z = v := by
  unfold sizeN at *
  by_cases e1 : x.2.2 = y.2.2
  · rw [if_neg (by simp [e1])] at h1
    by_cases e2 : y.2.2 = z.2.2
    · rw [if_neg (by simp [e2])] at h2
      rw [if_neg (by simp [e1, e2])]
      exact cb_trans h1 h2
    · rw [if_pos e2] at h2
      rw [if_pos (by rw [e1]; exact e2), e1]; exact h2
  · rw [if_pos e1] at h1
    by_cases e2 : y.2.2 = z.2.2
    · rw [if_pos (by rw [← e2]; exact e1), ← e2]; exact h1
    · rw [if_pos e2] at h2
      have h3 := ci_trans h1 h2
      have h0 := ci_ne e1
      rw [if_pos (fun e => by rw [e] at h3; have : Lib.compareInt z.2.2 z.2.2 = 0 := by unfold Lib.compareInt; (repeat' split) <;> omega
                              omega)]
      exact h3
theorem ci_self (a : Int) : Lib.compareInt a a = 0 := by unfold Lib.compareInt; (repeat' split) <;> omega
theorem num_anti (x y : Num) : cmpNum y x = -cmpNum x y := by
  unfold cmpNum
  by_cases h : signN x = signN y
  · rw [if_neg (by simp [h]), if_neg (by simp [h]), size_anti, h, Int.mul_neg]
  · rw [if_pos h, if_pos (fun e => h e.symm), ci_anti]
theorem num_trans {x y z : Num} {v : Int} (h1 : cmpNum x y = v) (h2 : cmpNum y z = v) : cmpNum x z = v := by
  unfold cmpNum at *
  by_cases e1 : signN x = signN y
  · rw [if_neg (by simp [e1])] at h1
    by_cases e2 : signN y = signN z
    · rw [if_neg (by simp [e2])] at h2
      rw [if_neg (by simp [e1, e2])]
      rw [e1] at h1 ⊢
      rcases signN_range y with h | h | h
      · rw [h] at h1 h2 ⊢
        have := size_trans (x := x) (y := y) (z := z) (v := -v) (by omega) (by omega)
        omega
      · rw [h] at h1 h2 ⊢; omega
      · rw [h] at h1 h2 ⊢
        have := size_trans (x := x) (y := y) (z := z) (v := v) (by omega) (by omega)
        omega
    · rw [if_pos e2] at h2
      rw [if_pos (by rw [e1]; exact e2), e1]; exact h2
  · rw [if_pos e1] at h1
    by_cases e2 : signN y = signN z
    · rw [if_pos (by rw [← e2]; exact e1), ← e2]; exact h1
    · rw [if_pos e2] at h2
      have h3 := ci_trans h1 h2
      have h0 := ci_ne e1
      rw [if_pos (fun e => by rw [e, ci_self] at h3; omega)]
      exact h3
theorem cmp_anti (a b : List UInt8) : cmpN b a = -cmpN a b := by
  unfold cmpN
  cases parseN a <;> cases parseN b
  · rfl
  · rfl
  · rfl
  · exact num_anti _ _
theorem cmp_eqs {a b c : List UInt8} (h1 : cmpN a b = 0) (h2 : cmpN b c = 0) : cmpN a c = 0 := by
  unfold cmpN at *
  revert h1 h2
  cases parseN a <;> cases parseN b <;> cases parseN c <;> intro h1 h2 <;> first | rfl | (simp at h1; done) | (simp at h2; done) | exact num_trans h1 h2
theorem cmp_self0 (a : List UInt8) : cmpN a a = 0 := by
  have h := cmp_anti a a
  omega
end Go.Proofs.YtcpmehppfccihaaGreatDoor
