/-
  ops.After tells what is written here, for all operations. No condition.
  ops.After tells what is written here, for all operations. No condition.
-/
import Derived.Test.YtjjiiaclgacfiaaGreatDoorJ4
namespace Go.Proofs.YtjjiiaclgacfiaaGreatDoor
open Go.RowKit
set_option linter.unusedVariables false
set_option linter.unusedSimpArgs false
def afterB (a b : OpV) : Bool := decide (b.T < a.T ∨ a.T = b.T ∧ b.R < a.R)
set_option maxHeartbeats 1000000 in
theorem After_any (a b : OpV) (w : World) : Calls Tryz.prog 10 #[opv a, opv b] w fun e w' => e = .returned (.bool (afterB a b)) ∧ Below w.heap.size w w' := by
  have a0 := OpV.g0 (o := a)
  have a2 := OpV.g2 (o := a)
  have b0 := OpV.g0 (o := b)
  have b2 := OpV.g2 (o := b)
  by_cases h1 : b.T < a.T
  · have hh : Hid (afterB a b = true) := by unfold Hid afterB; simp [h1]
    go_enter Tryz.func10, Tryz.ntmps10
    go_wp2
    go_ret
    exact ⟨ret_bool hh.out.symm, ((Below.refl _ _).alloc (Nat.le_refl _) _).alloc (by simp) _⟩
  · by_cases h2 : a.T = b.T
    · have h2b : (a.T == b.T) = true := by simpa using h2
      have hh : Hid (afterB a b = decide (b.R < a.R)) := by unfold Hid afterB; simp [h2]
      clear h2
      go_enter Tryz.func10, Tryz.ntmps10
      go_wp2
      go_ret
      exact ⟨ret_bool hh.out.symm, ((Below.refl _ _).alloc (Nat.le_refl _) _).alloc (by simp) _⟩
    · have h2b : (a.T == b.T) = false := by simpa using h2
      have hh : Hid (afterB a b = false) := by unfold Hid afterB; simp [h1, h2]
      clear h2
      go_enter Tryz.func10, Tryz.ntmps10
      go_wp2
      go_ret
      exact ⟨ret_bool hh.out.symm, ((Below.refl _ _).alloc (Nat.le_refl _) _).alloc (by simp) _⟩
end Go.Proofs.YtjjiiaclgacfiaaGreatDoor
namespace Go.Proofs.YtjjiiaclgacfiaaGreatDoor
open Go.RowKit
set_option linter.unusedVariables false
set_option linter.unusedSimpArgs false

set_option maxHeartbeats 1000000 in
theorem rAfter_any (a b : OpV) (w : World) : Calls Tryz.prog 11 #[opv a, opv b] w fun e w' => e = .returned (.bool (afterB a b)) ∧ Below w.heap.size w w' := by
  have a0 := OpV.g0 (o := a)
  have a2 := OpV.g2 (o := a)
  have b0 := OpV.g0 (o := b)
  have b2 := OpV.g2 (o := b)
  by_cases h1 : b.T < a.T
  · have hh : Hid (afterB a b = true) := by unfold Hid afterB; simp [h1]
    go_enter Tryz.func11, Tryz.ntmps11
    go_wp2
    go_ret
    exact ⟨ret_bool hh.out.symm, ((Below.refl _ _).alloc (Nat.le_refl _) _).alloc (by simp) _⟩
  · by_cases h2 : a.T = b.T
    · have h2b : (a.T == b.T) = true := by simpa using h2
      have hh : Hid (afterB a b = decide (b.R < a.R)) := by unfold Hid afterB; simp [h2]
      clear h2
      go_enter Tryz.func11, Tryz.ntmps11
      go_wp2
      go_ret
      exact ⟨ret_bool hh.out.symm, ((Below.refl _ _).alloc (Nat.le_refl _) _).alloc (by simp) _⟩
    · have h2b : (a.T == b.T) = false := by simpa using h2
      have hh : Hid (afterB a b = false) := by unfold Hid afterB; simp [h1, h2]
      clear h2
      go_enter Tryz.func11, Tryz.ntmps11
      go_wp2
      go_ret
      exact ⟨ret_bool hh.out.symm, ((Below.refl _ _).alloc (Nat.le_refl _) _).alloc (by simp) _⟩
end Go.Proofs.YtjjiiaclgacfiaaGreatDoor
