/-
  The document's first example of vectors: awake() is true. No condition.
-/
import Derived.Test.YtlmligchjjgcmaaClk5
import Derived.Test.YtlmligchjjgcmaaVecEq
import Derived.Test.YtlmligchjjgcmaaSees
namespace Go.Proofs.Ytlmligchjjgcmaa
open Go.RowKit
set_option linter.unusedVariables false
set_option linter.unusedSimpArgs false

def Z64 : List Int := List.replicate 64 0
theorem Z64_length : Z64.length = 64 := rfl
def E31 : List Int := Z64.set 2 1
theorem E31_length : E31.length = 64 := rfl
theorem aw_next : nextOf Z64 3 = (3, 1) := by decide
theorem aw_with1 : withOf Z64 3 1 = (E31, true) := by decide
theorem aw_with2 : withOf Z64 3 2 = (Z64, false) := by decide
theorem aw_has1 : hasB E31 3 1 = true := by decide
theorem aw_has2 : hasB Z64 3 1 = false := by decide
theorem aw_cov1 : coversB E31 Z64 = true := by decide
theorem aw_cov2 : coversB Z64 E31 = false := by decide
theorem aw_join : joinOf Z64 E31 = E31 := by decide
theorem aw_miss : missOf Z64 E31 = [(3, 1)] := by decide
theorem aw_total : totTo E31 64 = 1 := by decide
theorem aw_good : goodB 3 1 = true := by decide
theorem aw_less : lessB 3 1 1 2 = true := by decide

theorem c_next (W : World) : Calls Try.prog 8 #[.agg (vcells Z64), .int .i64 3] W fun e w' => e = .returned (.agg #[.int .i64 3, .int .i64 1]) ∧ Below W.heap.size W w' := by
  have h := Next_any Z64 3 W rfl
  rw [aw_next] at h; exact h
theorem c_with1 (W : World) : Calls Try.prog 14 #[.agg (vcells Z64), .agg #[.int .i64 3, .int .i64 1]] W fun e w' => e = .returned (.tuple #[.agg (vcells E31), .bool true]) ∧ Below W.heap.size W w' := by
  have h := With_any Z64 3 1 W rfl
  rw [aw_with1] at h; exact h
theorem c_with2 (W : World) : Calls Try.prog 14 #[.agg (vcells Z64), .agg #[.int .i64 3, .int .i64 2]] W fun e w' => e = .returned (.tuple #[.agg (vcells Z64), .bool false]) ∧ Below W.heap.size W w' := by
  have h := With_any Z64 3 2 W rfl
  rw [aw_with2] at h; exact h
theorem c_has1 (W : World) : Calls Try.prog 11 #[.agg (vcells E31), .agg #[.int .i64 3, .int .i64 1]] W fun e w' => e = .returned (.bool true) ∧ Below W.heap.size W w' := by
  have h := Has_any E31 3 1 W rfl
  rw [aw_has1] at h; exact h
theorem c_has2 (W : World) : Calls Try.prog 11 #[.agg (vcells Z64), .agg #[.int .i64 3, .int .i64 1]] W fun e w' => e = .returned (.bool false) ∧ Below W.heap.size W w' := by
  have h := Has_any Z64 3 1 W rfl
  rw [aw_has2] at h; exact h
theorem c_cov1 (W : World) : Calls Try.prog 12 #[.agg (vcells E31), .agg (vcells Z64)] W fun e w' => e = .returned (.bool true) ∧ Below W.heap.size W w' := by
  have h := Covers_any E31 Z64 W rfl rfl
  rw [aw_cov1] at h; exact h
theorem c_cov2 (W : World) : Calls Try.prog 12 #[.agg (vcells Z64), .agg (vcells E31)] W fun e w' => e = .returned (.bool false) ∧ Below W.heap.size W w' := by
  have h := Covers_any Z64 E31 W rfl rfl
  rw [aw_cov2] at h; exact h
theorem c_join (W : World) : Calls Try.prog 7 #[.agg (vcells Z64), .agg (vcells E31)] W fun e w' => e = .returned (.agg (vcells E31)) ∧ Below W.heap.size W w' := by
  have h := Join_any Z64 E31 W rfl rfl
  rw [aw_join] at h; exact h
theorem c_total (W : World) : Calls Try.prog 9 #[.agg (vcells E31)] W fun e w' => e = .returned (.int .i64 1) ∧ Below W.heap.size W w' := by
  have h := Total_any E31 W rfl
  rw [aw_total] at h; exact h
theorem c_good (W : World) : Calls Try.prog 10 #[.agg #[.int .i64 3, .int .i64 1]] W fun e w' => e = .returned (.bool true) ∧ Below W.heap.size W w' := by
  have h := Good_any 3 1 W
  rw [aw_good] at h; exact h
theorem c_less (W : World) : Calls Try.prog 15 #[.agg #[.int .i64 3, .int .i64 1], .agg #[.int .i64 1, .int .i64 2]] W fun e w' => e = .returned (.bool true) ∧ Below W.heap.size W w' := by
  have h := Less_any 3 1 1 2 W
  rw [aw_less] at h; exact h
theorem Z64_info : (Try.prog.info? 24).map (·.size) = some (vcells Z64).size := vec_info _ rfl
theorem E31_info : (Try.prog.info? 24).map (·.size) = some (vcells E31).size := vec_info _ rfl

theorem id_size : (Try.prog.info? 27).map (·.size) = some 2 := by kernel_rfl

set_option maxHeartbeats 4000000 in
theorem awake_any (w : World) : Calls Try.prog 6 #[] w fun e w' => e = .returned (.bool true) ∧ Below w.heap.size w w' := by
  have hS := Sees.start w
  go_enter Try.func6, Try.ntmps6
  go_wp2_with (first | (refine wpList_store_row rfl 24 (.tmp 1) (.tmp 8) rfl _ (vcells Z64) rfl rfl 24 _ (heap_alloc_new _ _) Z64_info rfl (vcells_one _) ?_; intro wn hbn hgn hon hsn; have hS := hS.box hon hbn hgn; clear hbn hgn hon hsn) | (refine wpList_store_row rfl 24 (.tmp 3) (.tmp 15) rfl _ (vcells E31) rfl rfl 24 _ (heap_alloc_new _ _) E31_info rfl (vcells_one _) ?_; intro wn hbn hgn hon hsn; have hS := hS.box hon hbn hgn; clear hbn hgn hon hsn) | (refine wpList_store_row rfl 24 (.tmp 5) (.tmp 21) rfl _ (vcells Z64) rfl rfl 24 _ (heap_alloc_new _ _) Z64_info rfl (vcells_one _) ?_; intro wn hbn hgn hon hsn; have hS := hS.box hon hbn hgn; clear hbn hgn hon hsn) | (refine wpList_load_row' rfl 24 (.tmp 1) rfl _ rfl 24 _ (0, 0) _ hS.g0 Try.underlying24 rfl Z64_info ?_) | (refine wpList_load_row' rfl 24 (.tmp 1) rfl _ rfl 24 _ (0, 0) _ (hS.alloc _).g0 Try.underlying24 rfl Z64_info ?_) | (refine wpList_load_row' rfl 27 (.tmp 2) rfl _ rfl 27 _ (0, 0) _ hS.g1 Try.underlying27 rfl id_size ?_) | (refine wpList_load_row' rfl 27 (.tmp 2) rfl _ rfl 27 _ (0, 0) _ (hS.alloc _).g1 Try.underlying27 rfl id_size ?_) | (refine wpList_load_row' rfl 24 (.tmp 3) rfl _ rfl 24 _ (0, 0) _ hS.g2 Try.underlying24 rfl E31_info ?_) | (go_at_call 8; with_reducible (refine (c_next _).mono ?_); rintro e wn ⟨rfl, hbn⟩; (first | have hS := hS.step hbn | have hS := (hS.alloc _).step hbn); clear hbn) | (go_at_call 14; with_reducible (refine (c_with1 _).mono ?_); rintro e wn ⟨rfl, hbn⟩; (first | have hS := hS.step hbn | have hS := (hS.alloc _).step hbn); clear hbn) | (go_at_call 14; with_reducible (refine (c_with2 _).mono ?_); rintro e wn ⟨rfl, hbn⟩; (first | have hS := hS.step hbn | have hS := (hS.alloc _).step hbn); clear hbn) | (go_at_call 11; with_reducible (refine (c_has1 _).mono ?_); rintro e wn ⟨rfl, hbn⟩; (first | have hS := hS.step hbn | have hS := (hS.alloc _).step hbn); clear hbn) | (go_at_call 11; with_reducible (refine (c_has2 _).mono ?_); rintro e wn ⟨rfl, hbn⟩; (first | have hS := hS.step hbn | have hS := (hS.alloc _).step hbn); clear hbn) | (go_at_call 12; with_reducible (refine (c_cov1 _).mono ?_); rintro e wn ⟨rfl, hbn⟩; (first | have hS := hS.step hbn | have hS := (hS.alloc _).step hbn); clear hbn) | (go_at_call 12; with_reducible (refine (c_cov2 _).mono ?_); rintro e wn ⟨rfl, hbn⟩; (first | have hS := hS.step hbn | have hS := (hS.alloc _).step hbn); clear hbn) | (go_at_call 7; with_reducible (refine (c_join _).mono ?_); rintro e wn ⟨rfl, hbn⟩; (first | have hS := hS.step hbn | have hS := (hS.alloc _).step hbn); clear hbn) | (go_at_call 9; with_reducible (refine (c_total _).mono ?_); rintro e wn ⟨rfl, hbn⟩; (first | have hS := hS.step hbn | have hS := (hS.alloc _).step hbn); clear hbn) | (go_at_call 10; with_reducible (refine (c_good _).mono ?_); rintro e wn ⟨rfl, hbn⟩; (first | have hS := hS.step hbn | have hS := (hS.alloc _).step hbn); clear hbn) | (go_at_call 15; with_reducible (refine (c_less _).mono ?_); rintro e wn ⟨rfl, hbn⟩; (first | have hS := hS.step hbn | have hS := (hS.alloc _).step hbn); clear hbn))
  refine (Missing_any Z64 E31 _ rfl rfl).mono ?_
  rintro e w6 ⟨x, rfl, hx, hb6⟩
  rw [aw_miss] at hx
  obtain ⟨g, cap, cur, rfl, hgb, hcap, hmax, hg, hcur⟩ := own_block hx (by decide)
  have hle : w.heap.size ≤ g := Nat.le_trans hS.below.size hgb
  have hS := (hS.step hb6).add hle hg
  have q0 : cur[0]? = some (.int .i64 3) := hcur 0 _ rfl
  have q1 : cur[1]? = some (.int .i64 1) := hcur 1 _ rfl
  have Q0 := Lib.hid q0
  have Q1 := Lib.hid q1
  clear q0 q1 hcur hg hb6 hx hgb hle hmax
  go_wp2
  have r1 := hS.g0
  have r2 := hS.g1
  have r3 := hS.g2
  have rg := hS.g4
  have c0 : w6.cell? ⟨g, 0, none⟩ = some (.int .i64 3) := by rw [cell_of_row w6 _ _ _ _ _ rg]; exact Q0.out
  have c1 : w6.cell? ⟨g, 1, none⟩ = some (.int .i64 1) := by rw [cell_of_row w6 _ _ _ _ _ rg]; exact Q1.out
  have k0 := cell_regrown c0
  have k1 := cell_regrown c1
  have d1 := grown_calls (w := w6) (fun W _ => c_has1 W)
  have d2 := grown_calls (w := w6) (fun W _ => c_has2 W)
  have d3 := grown_calls (w := w6) (fun W _ => c_cov1 W)
  have d4 := grown_calls (w := w6) (fun W _ => c_cov2 W)
  have d5 := grown_calls (w := w6) (fun W _ => c_join W)
  have d6 := grown_calls (w := w6) (fun W _ => c_total W)
  have d7 := grown_calls (w := w6) (fun W _ => c_good W)
  have d8 := grown_calls (w := w6) (fun W _ => c_less W)
  have hve : ∀ W, (Op.equalIn 10000 24 (.agg (vcells E31)) (.agg (vcells E31))).run Try.prog W = .ok true W := fun W => run_equalIn_vec W 9998 _ 2 64 Try.underlying24 Try.underlying2 (by kernel_rfl) E31 E31 rfl rfl
  have hB := hS.below
  clear hS Q0 Q1 c0 c1
  refine wp_region_quiet_below (by kernel_rfl) (by kernel_rfl) ?_
  repeat (first | (refine BigFrame.wpQuiet_want rfl (fun K hK => ?_); refine quiet_load_row 24 (.tmp 1) rfl _ rfl 24 _ (0, 0) _ (row_regrown r1) Try.underlying24 rfl Z64_info ?_; refine hK _ ?_; clear hK K) | (refine BigFrame.wpQuiet_want rfl (fun K hK => ?_); refine quiet_load_row 24 (.tmp 3) rfl _ rfl 24 _ (0, 0) _ (row_regrown r3) Try.underlying24 rfl E31_info ?_; refine hK _ ?_; clear hK K) | (refine BigFrame.wpQuiet_want rfl (fun K hK => ?_); refine quiet_load_row 27 (.tmp 2) rfl _ rfl 27 _ (0, 0) _ (row_regrown r2) Try.underlying27 rfl id_size ?_; refine hK _ ?_; clear hK K) | (quiet_step (first | with_reducible exact d1 _ _ | with_reducible exact d2 _ _ | with_reducible exact d3 _ _ | with_reducible exact d4 _ _ | with_reducible exact d5 _ _ | with_reducible exact d6 _ _ | with_reducible exact d7 _ _ | with_reducible exact d8 _ _)))
  refine wpQuiet_nil ?_; rintro wq ⟨⟨dq, osq⟩, rfl⟩; have hbq := below_regrown w6 dq osq; generalize Go.Sort.grow (redrawn w6 dq) osq = wq at *
  go_wp2
  go_ret
  exact ⟨rfl, below_then hB hB.size hbq⟩
end Go.Proofs.Ytlmligchjjgcmaa
