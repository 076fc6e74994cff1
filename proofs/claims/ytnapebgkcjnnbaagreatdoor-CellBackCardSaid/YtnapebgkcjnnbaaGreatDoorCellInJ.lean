/-
  What a cell says is a value that lies in every world. No condition.
-/
import Derived.Test.YtnapebgkcjnnbaaGreatDoorCellAJ
namespace Go.Proofs.YtnapebgkcjnnbaaGreatDoor
open Go.RowKit
set_option linter.unusedVariables false
set_option linter.unusedSimpArgs false
theorem parseInt_range {l : List UInt8} {n : Int} (h : Lib.parseIntB 64 l = .ok n) : -9223372036854775808 ≤ n ∧ n ≤ 9223372036854775807 := by
  unfold Lib.parseIntB at h
  cases l with
  | nil => cases h
  | cons c r =>
    simp only at h
    split at h
    · cases h
    · cases h
    · rename_i u hu
      split at h
      · cases h
      · rename_i h1
        split at h
        · cases h
        · rename_i h2
          have hn := Lib.NumEnd.ok.inj h
          subst hn
          by_cases h45 : c.toNat = 45
          · simp [h45] at h2 ⊢
            omega
          · simp [h45] at h1 ⊢
            omega
theorem intN_range {l : List UInt8} : -9223372036854775808 ≤ (intN l).getD 0 ∧ (intN l).getD 0 ≤ 9223372036854775807 := by
  unfold intN
  split
  · split
    · rename_i v hv
      exact parseInt_range hv
    · simp
  · simp
theorem numT_in (B : Nat) (W : World) (s : ByteArray) (hs : s.size ≤ 9223372036854775807) : VT.In B W (numT s) := by
  have h := @intN_range s.data.toList
  unfold numT
  split
  · exact VT.leaf_in _ _ _ _ _ h.1 h.2 (by decide) (by decide) (by decide)
  · exact VT.leaf_in _ _ _ _ _ (by decide) (by decide) (by decide) (by decide) hs
theorem strR_in (B : Nat) (W : World) (s : ByteArray) (hs : s.size ≤ 9223372036854775807) : VT.In B W (strR s).1 := by
  unfold strR
  split
  · exact VT.leaf_in _ _ _ _ _ (by decide) (by decide) (by decide) (by decide) hs
  · exact VT.no_in _ _
theorem stampR_in (B : Nat) (W : World) (s : ByteArray) (hs : s.size ≤ 9223372036854775807) : VT.In B W (stampR s).1 := by
  unfold stampR
  split
  · exact VT.leaf_in _ _ _ _ _ (by decide) (by decide) (by decide) (by decide) hs
  · exact VT.no_in _ _
theorem cell_in (B : Nat) (W : World) (s : ByteArray) (hs : s.size ≤ 9223372036854775807) : VT.In B W (cellV s).1 := by
  have lfi : ∀ k n : Int, 0 ≤ k ∧ k ≤ 9 → 0 ≤ n ∧ n ≤ 9 → VT.In B W (VT.leaf k n ⟨#[]⟩) := fun k n hk hn => VT.leaf_in _ _ _ _ _ (by omega) (by omega) (by omega) (by omega) (by decide)
  have he : (s.extract 1 s.size).size ≤ 9223372036854775807 := by simp; omega
  have hu : (unq s).size ≤ 9223372036854775807 := Nat.le_trans (unq_size s) hs
  have key : ∀ r : VT × Int, cellV s = r → VT.In B W r.1 := by
    intro r
    unfold cellV
    split
    · rintro rfl; exact VT.no_in _ _
    split
    · rintro rfl; exact VT.no_in _ _
    split
    · rintro rfl; exact lfi _ _ (by decide) (by decide)
    split
    · rintro rfl; exact lfi _ _ (by decide) (by decide)
    split
    · rintro rfl; exact lfi _ _ (by decide) (by decide)
    split
    · rintro rfl; exact lfi _ _ (by decide) (by decide)
    split
    · rintro rfl; exact numT_in _ _ _ hs
    split
    · rintro rfl; exact stampR_in _ _ _ he
    · rintro rfl; exact strR_in _ _ _ hu
  exact key _ rfl
end Go.Proofs.YtnapebgkcjnnbaaGreatDoor
