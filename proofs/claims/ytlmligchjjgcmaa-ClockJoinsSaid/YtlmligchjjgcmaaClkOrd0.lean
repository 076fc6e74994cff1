/-
  Plain facts for ClockOrder: a vector of one replica's n operations. No condition.
-/
import Derived.Test.YtlmligchjjgcmaaClkAwake
namespace Go.Proofs.Ytlmligchjjgcmaa
open Go.RowKit
set_option linter.unusedVariables false
set_option linter.unusedSimpArgs false
def one (r n : Nat) : List Int := Z64.set r (n : Int)
theorem one_length (r n : Nat) : (one r n).length = 64 := by simp [one, Z64]
theorem vat_Z (i : Nat) : vat Z64 i = 0 := by
  unfold vat Z64
  rw [List.getD_eq_getElem?_getD, List.getElem?_replicate]
  split <;> rfl
theorem vat_one (r n i : Nat) (hr : r < 64) : vat (one r n) i = if i = r then (n : Int) else 0 := by
  unfold one
  rw [vat_set _ _ _ _ (by rw [Z64_length]; exact hr), vat_Z]
theorem one_zero (r : Nat) (hr : r < 64) : one r 0 = Z64 := by
  refine vat_ext (by rw [one_length, Z64_length]) (fun i _ => ?_)
  rw [vat_one r 0 i hr, vat_Z]; split <;> rfl
theorem kn_in {x : Int} (h0 : 0 ≤ x) (h1 : x ≤ 60) : kn x = x := by unfold kn; rw [if_neg (show ¬ x < 0 by omega), if_neg (by omega)]
theorem know_one (r n : Nat) (hr : r < 64) (hn : n ≤ 60) : know (one r n) ((r : Int) + 1) = n := by
  rw [know_add, vat_one r n r hr, if_pos rfl]; exact kn_in (by omega) (by omega)
theorem next_one (r n : Nat) (hr : r < 64) (hn : n < 60) : nextOf (one r n) ((r : Int) + 1) = ((r : Int) + 1, (n : Int) + 1) := by
  unfold nextOf
  rw [know_one r n hr (by omega), if_pos ⟨replicaB_iff.2 (by omega), by omega⟩]
theorem next_last (r : Nat) (hr : r < 64) : nextOf (one r 60) ((r : Int) + 1) = (0, 0) := by
  unfold nextOf
  rw [know_one r 60 hr (by omega), if_neg (fun h => h.2 rfl)]
theorem clean_one (r n : Nat) (hr : r < 64) (hn : n ≤ 60) : cleanOf (one r n) = one r n := by
  refine vat_ext (by rw [cleanOf_length]) (fun i hi => ?_)
  rw [cleanOf_length, one_length] at hi
  rw [cleanOf_at _ _ (by rw [one_length]; exact hi), vat_one r n i hr]
  split
  · exact kn_in (by omega) (by omega)
  · exact kn_in (by omega) (by omega)
theorem good_one (r n : Nat) (hr : r < 64) (hn : n < 60) : goodB ((r : Int) + 1) ((n : Int) + 1) = true := goodB_iff.2 (by omega)
theorem with_one (r n : Nat) (hr : r < 64) (hn : n < 60) : withOf (one r n) ((r : Int) + 1) ((n : Int) + 1) = (one r (n + 1), true) := by
  unfold withOf
  rw [if_pos ⟨good_one r n hr hn, next_one r n hr hn⟩, clean_one r n hr (by omega)]
  congr 1
  have : ((r : Int) + 1).toNat - 1 = r := by omega
  rw [this]
  unfold one
  rw [List.set_set]
  rfl
def lastR (r n : Nat) : Int := if n = 0 then 0 else (r : Int) + 1
theorem less_one (r n : Nat) : lessB (lastR r n) (n : Int) ((r : Int) + 1) ((n : Int) + 1) = true := by
  unfold lessB lastR; exact decide_eq_true (by split <;> omega)
theorem tot_upto (r n : Nat) (hr : r < 64) (hn : n ≤ 60) (k : Nat) : totTo (one r n) k = if r < k then (n : Int) else 0 := by
  induction k with
  | zero => simp [totTo]
  | succ k ih =>
    simp only [totTo, ih, vat_one r n k hr]
    by_cases h1 : k = r
    · subst h1
      rw [if_neg (by omega), if_pos rfl, if_pos (by omega), kn_in (by omega) (by omega)]; omega
    · rw [if_neg h1]
      by_cases h2 : r < k
      · rw [if_pos h2, if_pos (by omega), kn_in (by omega) (by omega)]; omega
      · rw [if_neg h2, if_neg (by omega), kn_in (by omega) (by omega)]; rfl
theorem tot_one (r : Nat) (hr : r < 64) : totTo (one r 60) 64 = 60 := by rw [tot_upto r 60 hr (by omega), if_pos hr]; rfl
theorem Less_is {r n r' n' : Int} {b : Bool} (h : lessB r n r' n' = b) (w : World) :
    Calls Try.prog 15 #[.agg #[.int .i64 r, .int .i64 n], .agg #[.int .i64 r', .int .i64 n']] w fun e w' => e = .returned (.bool b) ∧ Below w.heap.size w w' := h ▸ Less_any r n r' n' w
end Go.Proofs.Ytlmligchjjgcmaa
