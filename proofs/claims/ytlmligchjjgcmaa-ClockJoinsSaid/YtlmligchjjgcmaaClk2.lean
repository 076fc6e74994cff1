/-
  The walks of the package clock, on: Has, Total, Covers, clean. No condition beside 64 numbers in a vector.
-/
import Derived.Test.YtlmligchjjgcmaaClk1
namespace Go.Proofs.Ytlmligchjjgcmaa
open Go.RowKit
set_option linter.unusedVariables false
set_option linter.unusedSimpArgs false

set_option maxHeartbeats 400000 in
theorem Has_any (v : List Int) (r n : Int) (w : World) (hv : v.length = 64) :
    Calls Try.prog 11 #[.agg (vcells v), .agg #[.int .i64 r, .int .i64 n]] w fun e w' => e = .returned (.bool (hasB v r n)) ∧ Below w.heap.size w w' := by
  have hi := vec_info v hv
  cases hg : goodB r n
  · have hh : Hid (hasB v r n = false) := by unfold Hid hasB; rw [hg]; rfl
    go_enter Try.func11, Try.ntmps11
    go_wp2
    have hB : Below w.heap.size w ((w.alloc (Obj.cells (vcells v) 24)).alloc (Obj.cells #[Value.int .i64 r, Value.int .i64 n] 27)) := ((Below.refl _ _).alloc (Nat.le_refl _) _).alloc (by simp) _
    have c0 : ((w.alloc (Obj.cells (vcells v) 24)).alloc (Obj.cells #[Value.int .i64 r, Value.int .i64 n] 27)).cell? ⟨w.heap.size + 1, 0, none⟩ = some (.int .i64 r) := by simp [go_sem]
    have c1 : ((w.alloc (Obj.cells (vcells v) 24)).alloc (Obj.cells #[Value.int .i64 r, Value.int .i64 n] 27)).cell? ⟨w.heap.size + 1, 1, none⟩ = some (.int .i64 n) := by simp [go_sem]
    generalize ((w.alloc (Obj.cells (vcells v) 24)).alloc (Obj.cells #[Value.int .i64 r, Value.int .i64 n] 27)) = W at *
    have k0 := cell_regrown c0
    have k1 := cell_regrown c1
    have cG := grown_calls (w := W) (fun W' _ => Good_is hg W')
    refine wp_region_quiet_below (by kernel_rfl) (by kernel_rfl) ?_
    repeat (quiet_step (exact cG _ _))
    refine wpQuiet_nil ?_; rintro wq ⟨⟨dq, osq⟩, rfl⟩; have hbq := below_regrown W dq osq; generalize Go.Sort.grow (redrawn W dq) osq = wq at *
    go_wp2
    go_ret
    exact ⟨ret_bool hh.out.symm, below_then hB hB.size hbq⟩
  · have hr := (goodB_iff.1 hg).1
    have hR := Lib.hid hr; clear hr
    have hh : Hid (hasB v r n = decide (n ≤ know v r)) := by unfold Hid hasB; rw [hg]; rfl
    go_enter Try.func11, Try.ntmps11
    go_wp2
    have hB : Below w.heap.size w ((w.alloc (Obj.cells (vcells v) 24)).alloc (Obj.cells #[Value.int .i64 r, Value.int .i64 n] 27)) := ((Below.refl _ _).alloc (Nat.le_refl _) _).alloc (by simp) _
    have c0 : ((w.alloc (Obj.cells (vcells v) 24)).alloc (Obj.cells #[Value.int .i64 r, Value.int .i64 n] 27)).cell? ⟨w.heap.size + 1, 0, none⟩ = some (.int .i64 r) := by simp [go_sem]
    have c1 : ((w.alloc (Obj.cells (vcells v) 24)).alloc (Obj.cells #[Value.int .i64 r, Value.int .i64 n] 27)).cell? ⟨w.heap.size + 1, 1, none⟩ = some (.int .i64 n) := by simp [go_sem]
    have hg0 : ((w.alloc (Obj.cells (vcells v) 24)).alloc (Obj.cells #[Value.int .i64 r, Value.int .i64 n] 27)).heap[w.heap.size]? = some (Obj.cells (vcells v) 24) := heap_alloc2_old _ _ _
    generalize ((w.alloc (Obj.cells (vcells v) 24)).alloc (Obj.cells #[Value.int .i64 r, Value.int .i64 n] 27)) = W at *
    have k0 := cell_regrown c0
    have k1 := cell_regrown c1
    have cG := grown_calls (w := W) (fun W' _ => Good_is hg W')
    have cK := grown_calls (w := W) (fun W' _ => known_any v r W' hv hR.out.1 hR.out.2)
    refine wp_region_quiet_below (by kernel_rfl) (by kernel_rfl) ?_
    repeat (first | (refine BigFrame.wpQuiet_want rfl (fun K hK => ?_); refine quiet_load_row 24 (.tmp 2) rfl _ rfl 24 _ (0, 0) _ (row_regrown hg0) Try.underlying24 rfl hi ?_; refine hK _ ?_; clear hK K) | (quiet_step (first | with_reducible exact cG _ _ | with_reducible exact cK _ _)))
    refine wpQuiet_nil ?_; rintro wq ⟨⟨dq, osq⟩, rfl⟩; have hbq := below_regrown W dq osq; generalize Go.Sort.grow (redrawn W dq) osq = wq at *
    go_wp2
    all_goals
      go_ret
      exact ⟨ret_bool hh.out.symm, below_then hB hB.size hbq⟩

/-- How many of the first k replicas' are known. -/
def totTo (v : List Int) : Nat → Int
  | 0 => 0
  | k + 1 => totTo v k + kn (vat v k)
theorem totTo_range (v : List Int) (k : Nat) : 0 ≤ totTo v k ∧ totTo v k ≤ 60 * k := by
  induction k with
  | zero => simp [totTo]
  | succ k ih => have := kn_range (vat v k); simp only [totTo]; omega
theorem know_succ (v : List Int) (k : Nat) : know v (k + 1 : Nat) = kn (vat v k) := by unfold know; congr 1
theorem know_add (v : List Int) (k : Nat) : know v ((k : Int) + 1) = kn (vat v k) := know_succ v k

set_option maxHeartbeats 400000 in
theorem Total_any (v : List Int) (w : World) (hv : v.length = 64) :
    Calls Try.prog 9 #[.agg (vcells v)] w fun e w' => e = .returned (.int .i64 (totTo v 64)) ∧ Below w.heap.size w w' := by
  have hi := vec_info v hv
  go_enter Try.func9, Try.ntmps9
  go_wp2
  go_loopw [3, 4] (fun t i wr => ∃ k : Nat, k ≤ 64 ∧ i = .int .i64 (k + 1 : Nat) ∧ t = .int .i64 (totTo v k) ∧ Below w.heap.size w wr ∧ wr.heap[w.heap.size]? = some (.cells (vcells v) 24 (0, 0))) (fun _ i _ => 65 - (intOf i).toNat)
  case atStart => exact ⟨0, by omega, rfl, rfl, (Below.refl _ _).alloc (Nat.le_refl _) _, heap_alloc_new _ _⟩
  case round =>
    rename_i wr
    obtain ⟨k, hk, rfl, rfl, hb, hg⟩ := hrel
    have ht := totTo_range v k
    have hzz : w.heap.size < wr.heap.size := (Array.getElem?_eq_some_iff.1 hg).1
    by_cases hlt : k < 64
    · go_wp2_with (refine wpList_load_row' rfl 24 (.tmp 1) rfl _ rfl 24 _ (0, 0) _ hg Try.underlying24 rfl hi ?_)
      refine (known_any _ _ _ hv (by omega) (by omega)).mono ?_
      rintro e w1 ⟨rfl, hb1⟩
      have hg1 : w1.heap[w.heap.size]? = some (.cells (vcells v) 24 (0, 0)) := (hb1.block _ hzz).trans hg
      have hB1 : Below w.heap.size w w1 := below_then hb hb.size hb1
      have hkr := know_range v ((k : Int) + 1)
      have hK : Hid (totTo v (k + 1) = totTo v k + know v ((k : Int) + 1)) := by unfold Hid; rw [know_add]; rfl
      go_wp2
      go_roundw
      case rel => exact ⟨k + 1, by omega, by go_num, by rw [hK.out], hB1, hg1⟩
      case measure => simp [intOf]; omega
    · obtain rfl : k = 64 := by omega
      go_wp2
      go_ret
      exact ⟨rfl, hb⟩

def coversTo (v u : List Int) (k : Nat) : Prop := ∀ i, i < k → kn (vat u i) ≤ kn (vat v i)
def coversB (v u : List Int) : Bool := (List.range 64).all fun i => decide (kn (vat u i) ≤ kn (vat v i))
theorem coversB_iff {v u : List Int} : coversB v u = true ↔ coversTo v u 64 := by simp [coversB, coversTo]

set_option maxHeartbeats 400000 in
theorem Covers_any (v u : List Int) (w : World) (hv : v.length = 64) (hu : u.length = 64) :
    Calls Try.prog 12 #[.agg (vcells v), .agg (vcells u)] w fun e w' => e = .returned (.bool (coversB v u)) ∧ Below w.heap.size w w' := by
  have hi := vec_info v hv
  have hj := vec_info u hu
  go_enter Try.func12, Try.ntmps12
  go_wp2
  go_loopw [5] (fun i wr => ∃ k : Nat, k ≤ 64 ∧ i = .int .i64 (k + 1 : Nat) ∧ Hid (coversTo v u k) ∧ Below w.heap.size w wr ∧ wr.heap[w.heap.size]? = some (.cells (vcells v) 24 (0, 0)) ∧ wr.heap[w.heap.size + 1]? = some (.cells (vcells u) 24 (0, 0))) (fun i _ => 65 - (intOf i).toNat)
  case atStart => exact ⟨0, by omega, rfl, fun i h => absurd h (by omega), ((Below.refl _ _).alloc (Nat.le_refl _) _).alloc (by simp) _, heap_alloc2_old _ _ _, heap_alloc2_new _ _ _⟩
  case round =>
    rename_i wr
    obtain ⟨k, hk, rfl, hco, hb, hg0, hg1⟩ := hrel
    by_cases hlt : k < 64
    · have cV := grown_calls (w := wr) (fun W' _ => known_any v ((k : Int) + 1) W' hv (by omega) (by omega))
      have cU := grown_calls (w := wr) (fun W' _ => known_any u ((k : Int) + 1) W' hu (by omega) (by omega))
      by_cases hc : know v ((k : Int) + 1) < know u ((k : Int) + 1)
      · go_wp2
        refine wp_region_quiet_below (by kernel_rfl) (by kernel_rfl) ?_
        repeat (first | (refine BigFrame.wpQuiet_want rfl (fun K hK => ?_); refine quiet_load_row 24 (.tmp 2) rfl _ rfl 24 _ (0, 0) _ (row_regrown hg0) Try.underlying24 rfl hi ?_; refine hK _ ?_; clear hK K) | (refine BigFrame.wpQuiet_want rfl (fun K hK => ?_); refine quiet_load_row 24 (.tmp 3) rfl _ rfl 24 _ (0, 0) _ (row_regrown hg1) Try.underlying24 rfl hj ?_; refine hK _ ?_; clear hK K) | (quiet_step (first | with_reducible exact cV _ _ | with_reducible exact cU _ _)))
        refine wpQuiet_nil ?_; rintro wq ⟨⟨dq, osq⟩, rfl⟩; have hbq := below_regrown wr dq osq; generalize Go.Sort.grow (redrawn wr dq) osq = wq at *
        go_wp2
        go_ret
        refine ⟨ret_bool ?_, below_then hb hb.size hbq⟩
        refine (Bool.eq_false_iff.2 fun h => ?_).symm
        have := coversB_iff.1 h k hlt
        rw [know_add, know_add] at hc
        omega
      · go_wp2
        refine wp_region_quiet_below (by kernel_rfl) (by kernel_rfl) ?_
        repeat (first | (refine BigFrame.wpQuiet_want rfl (fun K hK => ?_); refine quiet_load_row 24 (.tmp 2) rfl _ rfl 24 _ (0, 0) _ (row_regrown hg0) Try.underlying24 rfl hi ?_; refine hK _ ?_; clear hK K) | (refine BigFrame.wpQuiet_want rfl (fun K hK => ?_); refine quiet_load_row 24 (.tmp 3) rfl _ rfl 24 _ (0, 0) _ (row_regrown hg1) Try.underlying24 rfl hj ?_; refine hK _ ?_; clear hK K) | (quiet_step (first | with_reducible exact cV _ _ | with_reducible exact cU _ _)))
        refine wpQuiet_nil ?_; rintro wq ⟨⟨dq, osq⟩, rfl⟩; have hbq := below_regrown wr dq osq; generalize Go.Sort.grow (redrawn wr dq) osq = wq at *
        have hs0 : w.heap.size < wr.heap.size := (Array.getElem?_eq_some_iff.1 hg0).1
        have hs1 : w.heap.size + 1 < wr.heap.size := (Array.getElem?_eq_some_iff.1 hg1).1
        have hg0' := (hbq.block _ hs0).trans hg0
        have hg1' := (hbq.block _ hs1).trans hg1
        go_wp2
        go_roundw
        case rel =>
          refine ⟨k + 1, by omega, by go_num, fun i h => ?_, below_then hb hb.size hbq, hg0', hg1'⟩
          rcases Nat.lt_or_ge i k with h1 | h1
          · exact hco.out i h1
          · obtain rfl : i = k := by omega
            rw [know_add, know_add] at hc
            omega
        case measure => simp [intOf]; omega
    · obtain rfl : k = 64 := by omega
      go_wp2
      go_ret
      exact ⟨ret_bool (coversB_iff.2 hco.out).symm, hb⟩
end Go.Proofs.Ytlmligchjjgcmaa
