/-
  4097 noughts are letters, too many. No condition.
-/
import Derived.Test.YtcpmehppfccihaaGreatDoorUtfTake
import Derived.Test.YtcpmehppfccihaaGreatDoorJ4
import Derived.Test.YtcpmehppfccihaaGreatDoorCopySJ
import Derived.Laws.IdiomStrings
import Derived.Laws.MakeOwn
namespace Go.Proofs.YtcpmehppfccihaaGreatDoor
open Go.RowKit
set_option linter.unusedVariables false
set_option linter.unusedSimpArgs false
theorem take_ascii (s : ByteArray) (h0 : 0 < s.size) (h1 : 0 ≤ bt s 0) (h2 : bt s 0 < 128) : takeS s = (bt s 0, 1) := by
  have e : beginN (bt s 0) = (1, bt s 0) := by unfold beginN; rw [if_pos h2]
  unfold takeS
  rw [if_neg (by omega), e]
  have e1 : ¬ ((1 : Int) = 0 ∨ (s.size : Int) < 1) := by omega
  simp only
  rw [if_neg e1]
  have e2 : foldU s 1 ((1 : Int).toNat - 1) (bt s 0) = some (bt s 0) := rfl
  rw [e2]
  have e3 : (goodR (bt s 0) && sizeR (bt s 0) == 1) = true := by
    unfold goodR sizeR
    rw [if_pos h2]
    simp
    omega
  simp only [e3, if_true]
theorem vGo_ascii (s : ByteArray) (h : ∀ i, i < s.size → 0 ≤ bt (s.extract i s.size) 0 ∧ bt (s.extract i s.size) 0 < 128) : ∀ d i, (vGo s d i).2 = true := by
  intro d
  induction d with
  | zero => intro i; rfl
  | succ d ih =>
    intro i
    rw [vGo]
    by_cases hlt : i < s.size
    · rw [if_pos hlt, take_ascii _ (by simp; omega) (h i hlt).1 (h i hlt).2]
      rw [if_neg (by show ¬ (1 : Int) = 0; omega)]
      exact ih _
    · rw [if_neg hlt]
def zerosN (n : Nat) : ByteArray := ⟨(List.replicate n (0 : UInt8)).toArray⟩
theorem zeros_size (n : Nat) : (zerosN n).size = n := by
  show (List.replicate n (0 : UInt8)).toArray.size = n
  simp
theorem zeros_at (n i : Nat) (h : i < (zerosN n).size) : (zerosN n)[i] = 0 := by
  show (List.replicate n (0 : UInt8)).toArray[i]'_ = 0
  simp
theorem zeros_let (n : Nat) (hn : 4096 < n) : letC (zerosN n) = 2 := by
  have hv : (validS (zerosN n)).2 = true := vGo_ascii (zerosN n) (fun i hi => by
    have e : bt ((zerosN n).extract i (zerosN n).size) 0 = 0 := by
      unfold bt
      split
      · rename_i h
        have : ((zerosN n).extract i (zerosN n).size)[(0 : Int).toNat]'h = 0 := by
          rw [ByteArray.getElem_extract]
          exact zeros_at _ _ _
        rw [this]
        rfl
      · rfl
    rw [e]
    omega) _ _
  unfold letC
  rw [if_pos hv, zeros_size, if_pos hn]
/-- The cells of that many bytes, just made. -/
def zcells (n : Nat) : Array Value := madeCells #[.int .u8 0] n
theorem zmakeN (n : Nat) (hn : n ≤ 100000) (W : World) : (Instr.makeSlice 31 (.int .i64 n) (.int .i64 n)).run Tryz.prog W = .ok (.slice (some ⟨W.heap.size, 0, none⟩) n n) (W.alloc (.cells (zcells n) 5)) := by
  obtain ⟨i, hi, hz0⟩ := Option.map_eq_some_iff.1 (show (Tryz.prog.info? 5).map (fun i => (i.zero, i.size, i.bytes)) = some (some (.int .u8 0), 1, 1) by kernel_rfl)
  have hz : i.zero = some (.int .u8 0) ∧ i.size = 1 ∧ i.bytes = 1 := by
    injection hz0 with e1 e2
    injection e2 with e2 e3
    exact ⟨e1, e2, e3⟩
  have := run_make (P := Tryz.prog) W 31 5 i (.int .u8 0) Tryz.underlying31 hi hz.1 .i64 .i64 n n (by omega) (by omega) (by rw [hz.2.2]; omega) (by omega)
  rw [hz.2.1] at this
  simp only [Int.toNat_natCast, Nat.mul_one] at this
  exact this
theorem zconvN (n : Nat) (W : World) (b : Nat) (h : W.heap[b]? = some (.cells (zcells n) 5 (0, 0))) : (convert 31 9 (.slice (some ⟨b, 0, none⟩) n n)).run Tryz.prog W = .ok (.string (zerosN n)) W := by
  have := run_convert_bytes_back (P := Tryz.prog) W 31 9 5 ⟨b, 0, none⟩ n (List.replicate n 0) Tryz.underlying31 Tryz.underlying5 Tryz.underlying9 (fun j hj => by
    have hj' : j < n := by simpa using hj
    rw [add_row, cell_of_row W b _ _ _ _ h]
    have hz : (zcells n)[0 + j]? = some (.int .u8 0) := by
      rw [Nat.zero_add]
      unfold zcells madeCells
      simp [hj', Nat.mod_one]
    rw [hz]
    simp)
  simpa [zerosN] using this
theorem zmake (W : World) : (Instr.makeSlice 31 (.int .i64 4097) (.int .i64 4097)).run Tryz.prog W = .ok (.slice (some ⟨W.heap.size, 0, none⟩) 4097 4097) (W.alloc (.cells (zcells 4097) 5)) := zmakeN 4097 (by omega) W
end Go.Proofs.YtcpmehppfccihaaGreatDoor
