/-
  (ops.Op).named tells what is written here, for all operations and names. No condition beside 64 numbers in a vector.
-/
import Derived.Test.YtjjiiaclgacfiaaDoorOpRow
import Derived.Test.YtjjiiaclgacfiaaDoorClkHas
namespace Go.Proofs.YtjjiiaclgacfiaaDoor
open Go.RowKit
set_option linter.unusedVariables false
set_option linter.unusedSimpArgs false
def namedB (o : OpV) (r n : Int) (nb : Bool) : Bool := if r = 0 ∧ n = 0 then nb else hasB o.seen r n
theorem seen_info (o : OpV) (h : o.seen.length = 64) : (Tryd.prog.info? 26).map (·.size) = some (vcells o.seen).size := by
  rw [vcells_size, h]; kernel_rfl
set_option maxHeartbeats 1000000 in
theorem named_any (o : OpV) (r n : Int) (nb : Bool) (w : World) (ho : o.seen.length = 64) : Calls Tryd.prog 14 #[opv o, .agg #[.int .i64 r, .int .i64 n], .bool nb] w fun e w' => e = .returned (.bool (namedB o r n nb)) ∧ Below w.heap.size w w' := by
  by_cases h1 : r = 0
  · subst h1
    by_cases h2 : n = 0
    · subst h2
      have hh : Hid (namedB o 0 0 nb = nb) := by unfold Hid namedB; simp
      go_enter Tryd.func14, Tryd.ntmps14
      go_wp2
      go_ret
      exact ⟨ret_bool hh.out.symm, ((Below.refl _ _).alloc (Nat.le_refl _) _).alloc (by simp) _⟩
    · have hh : Hid (namedB o 0 n nb = hasB o.seen 0 n) := by unfold Hid namedB; simp [h2]
      have h2b : (n == 0) = false := by simpa using h2
      clear h2
      go_enter Tryd.func14, Tryd.ntmps14
      go_wp2_with (first | (refine load_part rfl 26 (.tmp 11) rfl _ 3 rfl _ _ (0, 0) _ _ (heap_alloc2_old _ _ _) (OpV.pSeen ho) Tryd.underlying26 rfl (seen_info _ ho) ?_) | (go_at_call 20; with_reducible (refine (Has_any _ _ _ _ ho).mono ?_); rintro e w1 ⟨rfl, hb1⟩))
      go_ret
      exact ⟨ret_bool hh.out.symm, below_then (((Below.refl _ _).alloc (Nat.le_refl _) _).alloc (by simp) _) (by simp; omega) hb1⟩
  · have hh : Hid (namedB o r n nb = hasB o.seen r n) := by unfold Hid namedB; simp [h1]
    have h1b : (r == 0) = false := by simpa using h1
    clear h1
    go_enter Tryd.func14, Tryd.ntmps14
    go_wp2_with (first | (refine load_part rfl 26 (.tmp 11) rfl _ 3 rfl _ _ (0, 0) _ _ (heap_alloc2_old _ _ _) (OpV.pSeen ho) Tryd.underlying26 rfl (seen_info _ ho) ?_) | (go_at_call 20; with_reducible (refine (Has_any _ _ _ _ ho).mono ?_); rintro e w1 ⟨rfl, hb1⟩))
    go_ret
    exact ⟨ret_bool hh.out.symm, below_then (((Below.refl _ _).alloc (Nat.le_refl _) _).alloc (by simp) _) (by simp; omega) hb1⟩
end Go.Proofs.YtjjiiaclgacfiaaDoor
