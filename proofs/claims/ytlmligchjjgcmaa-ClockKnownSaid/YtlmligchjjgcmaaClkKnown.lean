/-
  ClockKnown, walked: it returns true, whatever the memory; what was there stays. No condition.
-/
import Derived.Test.YtlmligchjjgcmaaClkAwake
import Derived.Test.YtlmligchjjgcmaaRow
namespace Go.Proofs.Ytlmligchjjgcmaa
open Go.RowKit
set_option linter.unusedVariables false
set_option linter.unusedSimpArgs false

abbrev K3 : List Int := ((Z64.set 0 60).set 1 (-5)).set 2 99
def J3 : List Int := (Z64.set 0 60).set 2 60
theorem kn_join : joinOf K3 Z64 = J3 := by decide
theorem kn_next1 : nextOf K3 1 = (0, 0) := by decide
theorem kn_next0 : nextOf K3 0 = (0, 0) := by decide
theorem kn_next65 : nextOf K3 65 = (0, 0) := by decide
theorem kn_next2 : nextOf K3 2 = (2, 1) := by decide
theorem kn_total : totTo K3 64 = 120 := by decide
theorem kn_good1 : goodB 1 61 = false := by decide
theorem kn_good0 : goodB 0 0 = false := by decide
theorem kn_has : hasB K3 0 0 = false := by decide
theorem k_join (W : World) : Calls Try.prog 7 #[.agg (vcells K3), .agg (vcells Z64)] W fun e w' => e = .returned (.agg (vcells J3)) ∧ Below W.heap.size W w' := by
  have h := Join_any K3 Z64 W rfl rfl
  rw [kn_join] at h; exact h
theorem k_next (r a b : Int) (hr : nextOf K3 r = (a, b)) (W : World) : Calls Try.prog 8 #[.agg (vcells K3), .int .i64 r] W fun e w' => e = .returned (.agg #[.int .i64 a, .int .i64 b]) ∧ Below W.heap.size W w' := by
  have h := Next_any K3 r W rfl
  rw [hr] at h; exact h
theorem k_total (W : World) : Calls Try.prog 9 #[.agg (vcells K3)] W fun e w' => e = .returned (.int .i64 120) ∧ Below W.heap.size W w' := by
  have h := Total_any K3 W rfl
  rw [kn_total] at h; exact h
theorem k_has (W : World) : Calls Try.prog 11 #[.agg (vcells K3), .agg #[.int .i64 0, .int .i64 0]] W fun e w' => e = .returned (.bool false) ∧ Below W.heap.size W w' := by
  have h := Has_any K3 0 0 W rfl
  rw [kn_has] at h; exact h
theorem K3_info : (Try.prog.info? 24).map (·.size) = some (vcells K3).size := vec_info _ rfl
theorem int_size : (Try.prog.info? 2).map (·.size) = some 1 := by kernel_rfl

set_option maxHeartbeats 4000000 in
theorem known_walk (w : World) : Calls Try.prog 3 #[] w fun e w' => e = .returned (.bool true) ∧ Below w.heap.size w w' := by
  have hS := Sees.start w
  go_enter Try.func3, Try.ntmps3
  go_wp2_with (first | (go_at_call 6; with_reducible (refine (awake_any _).mono ?_); rintro e wn ⟨rfl, hbn⟩; (first | have hS := hS.step hbn | have hS := (hS.alloc _).step hbn); clear hbn) | (refine wpList_store_row rfl 24 (.tmp 1) (.tmp 5) rfl _ (vcells Z64) rfl rfl 24 _ (heap_alloc_new _ _) Z64_info rfl (vcells_one _) ?_; intro wn hbn hgn hon hsn; have hS := hS.box hon hbn hgn; clear hbn hgn hon hsn) | (refine store_elem rfl 2 (.tmp 6) _ rfl _ 0 (.int .i64 (60)) rfl rfl rfl 24 _ _ hS.g0 (vcells_get _ _ (by decide)) int_size ?_; rw [vcells_set]; intro wn hgn hon hbn _; have hS := hS.one hon hbn hgn; clear hgn hon hbn) | (refine store_elem rfl 2 (.tmp 7) _ rfl _ 1 (.int .i64 (-5)) rfl rfl rfl 24 _ _ hS.g0 (vcells_get _ _ (by decide)) int_size ?_; rw [vcells_set]; intro wn hgn hon hbn _; have hS := hS.one hon hbn hgn; clear hgn hon hbn) | (refine store_elem rfl 2 (.tmp 8) _ rfl _ 2 (.int .i64 (99)) rfl rfl rfl 24 _ _ hS.g0 (vcells_get _ _ (by decide)) int_size ?_; rw [vcells_set]; intro wn hgn hon hbn _; have hS := hS.one hon hbn hgn; clear hgn hon hbn) | (refine wpList_load_row' rfl 24 (.tmp 1) rfl _ rfl 24 _ (0, 0) _ hS.g0 Try.underlying24 rfl K3_info ?_) | (refine wpList_store_row rfl 24 (.tmp 2) (.tmp 11) rfl _ (vcells J3) rfl rfl 24 _ (heap_alloc_new _ _) (vec_info _ rfl) rfl (vcells_one _) ?_; intro wn hbn hgn hon hsn; have hS := hS.box hon hbn hgn; clear hbn hgn hon hsn) | (go_at_call 7; change Calls _ _ #[.agg (vcells K3), .agg (vcells Z64)] _ _; refine (k_join _).mono ?_; rintro e wn ⟨rfl, hbn⟩; have hS := hS.step hbn; clear hbn) | (go_at_call 8; with_reducible (refine (k_next 1 0 0 kn_next1 _).mono ?_); rintro e wn ⟨rfl, hbn⟩; (first | have hS := hS.step hbn | have hS := (hS.alloc _).step hbn); clear hbn) | (go_at_call 8; with_reducible (refine (k_next 0 0 0 kn_next0 _).mono ?_); rintro e wn ⟨rfl, hbn⟩; (first | have hS := hS.step hbn | have hS := (hS.alloc _).step hbn); clear hbn) | (go_at_call 8; with_reducible (refine (k_next 65 0 0 kn_next65 _).mono ?_); rintro e wn ⟨rfl, hbn⟩; (first | have hS := hS.step hbn | have hS := (hS.alloc _).step hbn); clear hbn) | (go_at_call 8; with_reducible (refine (k_next 2 2 1 kn_next2 _).mono ?_); rintro e wn ⟨rfl, hbn⟩; (first | have hS := hS.step hbn | have hS := (hS.alloc _).step hbn); clear hbn) | (refine load_elem rfl 2 (.tmp 35) rfl _ _ rfl 24 _ (0, 0) _ _ hS.g1 (vcells_get _ _ (by decide)) Try.underlying2 rfl ?_) | (refine load_elem rfl 2 (.tmp 40) rfl _ _ rfl 24 _ (0, 0) _ _ hS.g1 (vcells_get _ _ (by decide)) Try.underlying2 rfl ?_) | (go_at_call 9; with_reducible (refine (k_total _).mono ?_); rintro e wn ⟨rfl, hbn⟩; (first | have hS := hS.step hbn | have hS := (hS.alloc _).step hbn); clear hbn) | (go_at_call 10; with_reducible (refine (Good_is kn_good1 _).mono ?_); rintro e wn ⟨rfl, hbn⟩; (first | have hS := hS.step hbn | have hS := (hS.alloc _).step hbn); clear hbn) | (go_at_call 10; with_reducible (refine (Good_is kn_good0 _).mono ?_); rintro e wn ⟨rfl, hbn⟩; (first | have hS := hS.step hbn | have hS := (hS.alloc _).step hbn); clear hbn) | (go_at_call 11; with_reducible (refine (k_has _).mono ?_); rintro e wn ⟨rfl, hbn⟩; (first | have hS := hS.step hbn | have hS := (hS.alloc _).step hbn); clear hbn))
  go_ret
  exact ⟨rfl, hS.below⟩
end Go.Proofs.Ytlmligchjjgcmaa
