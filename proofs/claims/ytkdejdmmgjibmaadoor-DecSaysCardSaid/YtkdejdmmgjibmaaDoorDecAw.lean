/-
  What dec's functions answer at the numbers that the document names. Condition: the library's variables as it lays them.
-/
import Derived.Test.YtkdejdmmgjibmaaDoorDecInt
import Derived.Test.YtkdejdmmgjibmaaDoorDecCmp
import Derived.Test.YtkdejdmmgjibmaaDoorDecAscii
namespace Go.Proofs.YtkdejdmmgjibmaaDoor
open Go.RowKit
set_option linter.unusedVariables false
set_option linter.unusedSimpArgs false
theorem int_vars (s : ByteArray) (w : World) (hw : Vars w) : Calls Tryd.prog 10 #[.string s] w fun e w' => e = .returned (.tuple #[.int .i64 ((intN s.data.toList).getD 0), .bool (intN s.data.toList).isSome]) ∧ Below w.heap.size w w' :=
  int_any s w hw (fun h => good_ascii h)

theorem aw_c1 (W : World) (h : Vars W) : Calls Tryd.prog 11 #[.string ⟨#[49, 50, 48, 48, 46, 53, 48]⟩] W fun e w' => e = .returned (.tuple #[.string ⟨#[49, 46, 50, 48, 48, 53, 101, 51]⟩, .bool true]) ∧ Below W.heap.size W w' := by
  have hp : parseN (⟨#[49, 50, 48, 48, 46, 53, 48]⟩ : ByteArray).data.toList = some (false, [49, 50, 48, 48, 53], 3) := by kernel_rfl
  have hc : canonS (⟨#[49, 50, 48, 48, 46, 53, 48]⟩ : ByteArray).data.toList = ([49, 46, 50, 48, 48, 53, 101, 51], true) := by unfold canonS; rw [hp]; simp [canonN, Lib.itoa, Lib.decDigits_one]
  have k := canon_any ⟨#[49, 50, 48, 48, 46, 53, 48]⟩ W h.tab
  rw [hc] at k
  exact k
theorem aw_c2 (W : World) (h : Vars W) : Calls Tryd.prog 11 #[.string ⟨#[45, 48, 46, 48]⟩] W fun e w' => e = .returned (.tuple #[.string ⟨#[48]⟩, .bool true]) ∧ Below W.heap.size W w' := by
  have hp : parseN (⟨#[45, 48, 46, 48]⟩ : ByteArray).data.toList = some (false, [], 0) := by kernel_rfl
  have hc : canonS (⟨#[45, 48, 46, 48]⟩ : ByteArray).data.toList = ([48], true) := by unfold canonS; rw [hp]; simp [canonN, Lib.itoa, Lib.decDigits_one]
  have k := canon_any ⟨#[45, 48, 46, 48]⟩ W h.tab
  rw [hc] at k
  exact k
theorem aw_i1 (W : World) (h : Vars W) : Calls Tryd.prog 10 #[.string ⟨#[45, 57, 50, 50, 51, 51, 55, 50, 48, 51, 54, 56, 53, 52, 55, 55, 53, 56, 48, 56]⟩] W fun e w' => e = .returned (.tuple #[.int .i64 (-9223372036854775808), .bool true]) ∧ Below W.heap.size W w' := by
  have hc : intN (⟨#[45, 57, 50, 50, 51, 51, 55, 50, 48, 51, 54, 56, 53, 52, 55, 55, 53, 56, 48, 56]⟩ : ByteArray).data.toList = (some (-9223372036854775808)) := by kernel_rfl
  have k := int_vars ⟨#[45, 57, 50, 50, 51, 51, 55, 50, 48, 51, 54, 56, 53, 52, 55, 55, 53, 56, 48, 56]⟩ W h
  rw [hc] at k
  exact k
theorem aw_m1 (W : World) : Calls Tryd.prog 13 #[.string ⟨#[49, 101, 50]⟩, .string ⟨#[49, 48, 48]⟩] W fun e w' => e = .returned (.int .i64 (0)) ∧ Below W.heap.size W w' := by
  have hc : cmpN (⟨#[49, 101, 50]⟩ : ByteArray).data.toList (⟨#[49, 48, 48]⟩ : ByteArray).data.toList = 0 := by kernel_rfl
  have k := cmp_any ⟨#[49, 101, 50]⟩ ⟨#[49, 48, 48]⟩ W
  rw [hc] at k
  exact k
theorem aw_m2 (W : World) : Calls Tryd.prog 13 #[.string ⟨#[45, 49]⟩, .string ⟨#[48, 46, 53]⟩] W fun e w' => e = .returned (.int .i64 (-1)) ∧ Below W.heap.size W w' := by
  have hc : cmpN (⟨#[45, 49]⟩ : ByteArray).data.toList (⟨#[48, 46, 53]⟩ : ByteArray).data.toList = -1 := by kernel_rfl
  have k := cmp_any ⟨#[45, 49]⟩ ⟨#[48, 46, 53]⟩ W
  rw [hc] at k
  exact k
theorem aw_t1 (W : World) (h : Vars W) : Calls Tryd.prog 20 #[.int .i64 (-5)] W fun e w' => e = .returned (.string ⟨#[45, 53]⟩) ∧ Below W.heap.size W w' := by
  have hc : Lib.itoa (-5) = [45, 53] := by simp [Lib.itoa, Lib.decDigits_one]
  have k := text_any (-5) W (by omega) (by omega) h.tab
  rw [hc] at k
  exact k
theorem aw_g1 (W : World) : Calls Tryd.prog 12 #[.string ⟨#[49, 101, 53]⟩] W fun e w' => e = .returned (.bool true) ∧ Below W.heap.size W w' := by
  have hc : goodN (⟨#[49, 101, 53]⟩ : ByteArray).data.toList = true := by kernel_rfl
  have k := good_any ⟨#[49, 101, 53]⟩ W
  rw [hc] at k
  exact k
theorem aw_w1 (W : World) : Calls Tryd.prog 17 #[.string ⟨#[49, 46, 53, 48, 101, 49]⟩] W fun e w' => e = .returned (.bool true) ∧ Below W.heap.size W w' := by
  have hc : wholeN (⟨#[49, 46, 53, 48, 101, 49]⟩ : ByteArray).data.toList = true := by kernel_rfl
  have k := whole_any ⟨#[49, 46, 53, 48, 101, 49]⟩ W
  rw [hc] at k
  exact k
theorem aw_w2 (W : World) : Calls Tryd.prog 17 #[.string ⟨#[48, 46, 53]⟩] W fun e w' => e = .returned (.bool false) ∧ Below W.heap.size W w' := by
  have hc : wholeN (⟨#[48, 46, 53]⟩ : ByteArray).data.toList = false := by kernel_rfl
  have k := whole_any ⟨#[48, 46, 53]⟩ W
  rw [hc] at k
  exact k
theorem kn_i1 (W : World) (h : Vars W) : Calls Tryd.prog 10 #[.string ⟨#[57, 50, 50, 51, 51, 55, 50, 48, 51, 54, 56, 53, 52, 55, 55, 53, 56, 48, 56]⟩] W fun e w' => e = .returned (.tuple #[.int .i64 (0), .bool false]) ∧ Below W.heap.size W w' := by
  have hc : intN (⟨#[57, 50, 50, 51, 51, 55, 50, 48, 51, 54, 56, 53, 52, 55, 55, 53, 56, 48, 56]⟩ : ByteArray).data.toList = none := by kernel_rfl
  have k := int_vars ⟨#[57, 50, 50, 51, 51, 55, 50, 48, 51, 54, 56, 53, 52, 55, 55, 53, 56, 48, 56]⟩ W h
  rw [hc] at k
  exact k
theorem kn_i2 (W : World) (h : Vars W) : Calls Tryd.prog 10 #[.string ⟨#[45, 48]⟩] W fun e w' => e = .returned (.tuple #[.int .i64 (0), .bool false]) ∧ Below W.heap.size W w' := by
  have hc : intN (⟨#[45, 48]⟩ : ByteArray).data.toList = none := by kernel_rfl
  have k := int_vars ⟨#[45, 48]⟩ W h
  rw [hc] at k
  exact k
theorem kn_i3 (W : World) (h : Vars W) : Calls Tryd.prog 10 #[.string ⟨#[49, 46, 48]⟩] W fun e w' => e = .returned (.tuple #[.int .i64 (0), .bool false]) ∧ Below W.heap.size W w' := by
  have hc : intN (⟨#[49, 46, 48]⟩ : ByteArray).data.toList = none := by kernel_rfl
  have k := int_vars ⟨#[49, 46, 48]⟩ W h
  rw [hc] at k
  exact k
theorem kn_c1 (W : World) (h : Vars W) : Calls Tryd.prog 11 #[.string ⟨#[48, 49]⟩] W fun e w' => e = .returned (.tuple #[.string ⟨#[]⟩, .bool false]) ∧ Below W.heap.size W w' := by
  have hp : parseN (⟨#[48, 49]⟩ : ByteArray).data.toList = none := by kernel_rfl
  have hc : canonS (⟨#[48, 49]⟩ : ByteArray).data.toList = ([], false) := by unfold canonS; rw [hp]
  have k := canon_any ⟨#[48, 49]⟩ W h.tab
  rw [hc] at k
  exact k
theorem kn_g1 (W : World) : Calls Tryd.prog 12 #[.string ⟨#[]⟩] W fun e w' => e = .returned (.bool false) ∧ Below W.heap.size W w' := by
  have hc : goodN (⟨#[]⟩ : ByteArray).data.toList = false := by kernel_rfl
  have k := good_any ⟨#[]⟩ W
  rw [hc] at k
  exact k
theorem kn_g2 (W : World) : Calls Tryd.prog 12 #[.string ⟨#[49, 46]⟩] W fun e w' => e = .returned (.bool false) ∧ Below W.heap.size W w' := by
  have hc : goodN (⟨#[49, 46]⟩ : ByteArray).data.toList = false := by kernel_rfl
  have k := good_any ⟨#[49, 46]⟩ W
  rw [hc] at k
  exact k
theorem kn_g3 (W : World) : Calls Tryd.prog 12 #[.string ⟨#[46, 53]⟩] W fun e w' => e = .returned (.bool false) ∧ Below W.heap.size W w' := by
  have hc : goodN (⟨#[46, 53]⟩ : ByteArray).data.toList = false := by kernel_rfl
  have k := good_any ⟨#[46, 53]⟩ W
  rw [hc] at k
  exact k
theorem kn_g4 (W : World) : Calls Tryd.prog 12 #[.string ⟨#[43, 49]⟩] W fun e w' => e = .returned (.bool false) ∧ Below W.heap.size W w' := by
  have hc : goodN (⟨#[43, 49]⟩ : ByteArray).data.toList = false := by kernel_rfl
  have k := good_any ⟨#[43, 49]⟩ W
  rw [hc] at k
  exact k
theorem kn_g5 (W : World) : Calls Tryd.prog 12 #[.string ⟨#[49, 101, 49, 48, 48, 48, 48, 48]⟩] W fun e w' => e = .returned (.bool true) ∧ Below W.heap.size W w' := by
  have hc : goodN (⟨#[49, 101, 49, 48, 48, 48, 48, 48]⟩ : ByteArray).data.toList = true := by kernel_rfl
  have k := good_any ⟨#[49, 101, 49, 48, 48, 48, 48, 48]⟩ W
  rw [hc] at k
  exact k
theorem kn_g6 (W : World) : Calls Tryd.prog 12 #[.string ⟨#[49, 101, 49, 48, 48, 48, 48, 49]⟩] W fun e w' => e = .returned (.bool false) ∧ Below W.heap.size W w' := by
  have hc : goodN (⟨#[49, 101, 49, 48, 48, 48, 48, 49]⟩ : ByteArray).data.toList = false := by kernel_rfl
  have k := good_any ⟨#[49, 101, 49, 48, 48, 48, 48, 49]⟩ W
  rw [hc] at k
  exact k
theorem kn_g7 (W : World) : Calls Tryd.prog 12 #[.string ⟨#[48, 101, 45, 48, 48, 55]⟩] W fun e w' => e = .returned (.bool true) ∧ Below W.heap.size W w' := by
  have hc : goodN (⟨#[48, 101, 45, 48, 48, 55]⟩ : ByteArray).data.toList = true := by kernel_rfl
  have k := good_any ⟨#[48, 101, 45, 48, 48, 55]⟩ W
  rw [hc] at k
  exact k
theorem kn_m1 (W : World) : Calls Tryd.prog 13 #[.string ⟨#[120]⟩, .string ⟨#[49]⟩] W fun e w' => e = .returned (.int .i64 (-1)) ∧ Below W.heap.size W w' := by
  have hc : cmpN (⟨#[120]⟩ : ByteArray).data.toList (⟨#[49]⟩ : ByteArray).data.toList = -1 := by kernel_rfl
  have k := cmp_any ⟨#[120]⟩ ⟨#[49]⟩ W
  rw [hc] at k
  exact k
theorem kn_m2 (W : World) : Calls Tryd.prog 13 #[.string ⟨#[120]⟩, .string ⟨#[121]⟩] W fun e w' => e = .returned (.int .i64 (0)) ∧ Below W.heap.size W w' := by
  have hc : cmpN (⟨#[120]⟩ : ByteArray).data.toList (⟨#[121]⟩ : ByteArray).data.toList = 0 := by kernel_rfl
  have k := cmp_any ⟨#[120]⟩ ⟨#[121]⟩ W
  rw [hc] at k
  exact k
end Go.Proofs.YtkdejdmmgjibmaaDoor
