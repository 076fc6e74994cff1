/-
  The reference's Good, n, Has tell what clock's tell. No condition.
-/
import Derived.Test.YtjjiiaclgacfiaaGreatDoorClkHasJ
namespace Go.Proofs.YtjjiiaclgacfiaaGreatDoor
open Go.RowKit
set_option linter.unusedVariables false
set_option linter.unusedSimpArgs false
theorem kn_is (x : Int) : kn x = if x < 0 then 0 else if 60 < x then 60 else x := by
  unfold kn
  (repeat' split) <;> omega
set_option maxHeartbeats 1000000 in
theorem r20n_any (v : List Int) (r : Int) (w : World) (hv : v.length = 64) (h1 : 1 ≤ r) (h2 : r ≤ 64) :
    Calls Tryz.prog 31 #[.agg (vcells v), .int .i64 r] w fun e w' => e = .returned (.int .i64 (know v r)) ∧ Below w.heap.size w w' := by
  have h : (vcells v)[r.toNat - 1]? = some (.int .i64 (vat v (r.toNat - 1))) := vcells_get v _ (by omega)
  have hs := vcells_size v
  rw [hv] at hs
  have hk : Hid (know v r = kn (vat v (r.toNat - 1))) := rfl
  obtain ⟨x, hx⟩ : ∃ x, x = vat v (r.toNat - 1) := ⟨_, rfl⟩
  rw [← hx] at h hk
  clear hx
  by_cases a : x < 0
  · have hh : Hid (know v r = 0) := by unfold Hid; rw [hk.out, kn_is, if_pos a]
    go_enter Tryz.func31, Tryz.ntmps31
    go_wp2
    go_ret
    exact ⟨by rw [hh.out]; rfl, by repeat (first | exact Below.refl _ _ | exact (Below.refl _ _).alloc (Nat.le_refl _) _)⟩
  by_cases b : 60 < x
  · have hh : Hid (know v r = 60) := by unfold Hid; rw [hk.out, kn_is, if_neg a, if_pos b]
    go_enter Tryz.func31, Tryz.ntmps31
    go_wp2
    go_ret
    exact ⟨by rw [hh.out]; rfl, by repeat (first | exact Below.refl _ _ | exact (Below.refl _ _).alloc (Nat.le_refl _) _)⟩
  · have hh : Hid (know v r = x) := by unfold Hid; rw [hk.out, kn_is, if_neg a, if_neg b]
    go_enter Tryz.func31, Tryz.ntmps31
    go_wp2
    go_ret
    exact ⟨by rw [hh.out]; rfl, by repeat (first | exact Below.refl _ _ | exact (Below.refl _ _).alloc (Nat.le_refl _) _)⟩
set_option maxHeartbeats 1000000 in
theorem r20Good_any (r n : Int) (w : World) :
    Calls Tryz.prog 19 #[.agg #[.int .i64 r, .int .i64 n]] w fun e w' => e = .returned (.bool (goodB r n)) ∧ Below w.heap.size w w' := by
  obtain ⟨x, hx⟩ : ∃ x, x = goodB r n := ⟨_, rfl⟩
  have hh : Hid (x = (decide (1 ≤ r) && decide (r ≤ 64) && decide (1 ≤ n) && decide (n ≤ 60))) := by
    unfold Hid; rw [hx, Bool.eq_iff_iff, goodB_iff]; simp; omega
  rw [← hx]
  clear hx
  by_cases h1 : 1 ≤ r
  case neg =>
    go_enter Tryz.func19, Tryz.ntmps19
    go_wp2
    go_ret
    exact ⟨ret_bool (by rw [hh.out, Bool.eq_iff_iff]; simp; try omega), (Below.refl _ _).alloc (Nat.le_refl _) _⟩
  by_cases h2 : r ≤ 64
  case neg =>
    go_enter Tryz.func19, Tryz.ntmps19
    go_wp2
    go_ret
    exact ⟨ret_bool (by rw [hh.out, Bool.eq_iff_iff]; simp; try omega), (Below.refl _ _).alloc (Nat.le_refl _) _⟩
  by_cases h3 : 1 ≤ n
  case neg =>
    go_enter Tryz.func19, Tryz.ntmps19
    go_wp2
    go_ret
    exact ⟨ret_bool (by rw [hh.out, Bool.eq_iff_iff]; simp; try omega), (Below.refl _ _).alloc (Nat.le_refl _) _⟩
  go_enter Tryz.func19, Tryz.ntmps19
  go_wp2
  go_ret
  exact ⟨ret_bool (by rw [hh.out, Bool.eq_iff_iff]; simp; try omega), (Below.refl _ _).alloc (Nat.le_refl _) _⟩
theorem r20Good_is {r n : Int} {b : Bool} (h : goodB r n = b) (w : World) :
    Calls Tryz.prog 19 #[.agg #[.int .i64 r, .int .i64 n]] w fun e w' => e = .returned (.bool b) ∧ Below w.heap.size w w' := h ▸ r20Good_any r n w
set_option maxHeartbeats 400000 in
theorem r20Has_any (v : List Int) (r n : Int) (w : World) (hv : v.length = 64) :
    Calls Tryz.prog 20 #[.agg (vcells v), .agg #[.int .i64 r, .int .i64 n]] w fun e w' => e = .returned (.bool (hasB v r n)) ∧ Below w.heap.size w w' := by
  have hi := vec_info v hv
  cases hg : goodB r n
  · have hh : Hid (hasB v r n = false) := by unfold Hid hasB; rw [hg]; rfl
    go_enter Tryz.func20, Tryz.ntmps20
    go_wp2
    have hB : Below w.heap.size w ((w.alloc (Obj.cells (vcells v) 25)).alloc (Obj.cells #[Value.int .i64 r, Value.int .i64 n] 23)) := ((Below.refl _ _).alloc (Nat.le_refl _) _).alloc (by simp) _
    have c0 : ((w.alloc (Obj.cells (vcells v) 25)).alloc (Obj.cells #[Value.int .i64 r, Value.int .i64 n] 23)).cell? ⟨w.heap.size + 1, 0, none⟩ = some (.int .i64 r) := by simp [go_sem]
    have c1 : ((w.alloc (Obj.cells (vcells v) 25)).alloc (Obj.cells #[Value.int .i64 r, Value.int .i64 n] 23)).cell? ⟨w.heap.size + 1, 1, none⟩ = some (.int .i64 n) := by simp [go_sem]
    generalize ((w.alloc (Obj.cells (vcells v) 25)).alloc (Obj.cells #[Value.int .i64 r, Value.int .i64 n] 23)) = W at *
    have k0 := cell_regrown c0
    have k1 := cell_regrown c1
    have cG := grown_calls (w := W) (fun W' _ => r20Good_is hg W')
    refine wp_region_quiet_below (by kernel_rfl) (by kernel_rfl) ?_
    repeat (quiet_step (exact cG _ _))
    refine wpQuiet_nil ?_; rintro wq ⟨⟨dq, osq⟩, rfl⟩; have hbq := below_regrown W dq osq; generalize Go.Sort.grow (redrawn W dq) osq = wq at *
    go_wp2
    go_ret
    exact ⟨ret_bool hh.out.symm, below_then hB hB.size hbq⟩
  · have hr := (goodB_iff.1 hg).1
    have hR := Lib.hid hr; clear hr
    have hh : Hid (hasB v r n = decide (n ≤ know v r)) := by unfold Hid hasB; rw [hg]; rfl
    go_enter Tryz.func20, Tryz.ntmps20
    go_wp2
    have hB : Below w.heap.size w ((w.alloc (Obj.cells (vcells v) 25)).alloc (Obj.cells #[Value.int .i64 r, Value.int .i64 n] 23)) := ((Below.refl _ _).alloc (Nat.le_refl _) _).alloc (by simp) _
    have c0 : ((w.alloc (Obj.cells (vcells v) 25)).alloc (Obj.cells #[Value.int .i64 r, Value.int .i64 n] 23)).cell? ⟨w.heap.size + 1, 0, none⟩ = some (.int .i64 r) := by simp [go_sem]
    have c1 : ((w.alloc (Obj.cells (vcells v) 25)).alloc (Obj.cells #[Value.int .i64 r, Value.int .i64 n] 23)).cell? ⟨w.heap.size + 1, 1, none⟩ = some (.int .i64 n) := by simp [go_sem]
    have hg0 : ((w.alloc (Obj.cells (vcells v) 25)).alloc (Obj.cells #[Value.int .i64 r, Value.int .i64 n] 23)).heap[w.heap.size]? = some (Obj.cells (vcells v) 25) := heap_alloc2_old _ _ _
    generalize ((w.alloc (Obj.cells (vcells v) 25)).alloc (Obj.cells #[Value.int .i64 r, Value.int .i64 n] 23)) = W at *
    have k0 := cell_regrown c0
    have k1 := cell_regrown c1
    have cG := grown_calls (w := W) (fun W' _ => r20Good_is hg W')
    have cK := grown_calls (w := W) (fun W' _ => r20n_any v r W' hv hR.out.1 hR.out.2)
    refine wp_region_quiet_below (by kernel_rfl) (by kernel_rfl) ?_
    repeat (first | (refine BigFrame.wpQuiet_want rfl (fun K hK => ?_); refine quiet_load_row 25 (.tmp 2) rfl _ rfl 25 _ (0, 0) _ (row_regrown hg0) Tryz.underlying25 rfl hi ?_; refine hK _ ?_; clear hK K) | (quiet_step (first | with_reducible exact cG _ _ | with_reducible exact cK _ _)))
    refine wpQuiet_nil ?_; rintro wq ⟨⟨dq, osq⟩, rfl⟩; have hbq := below_regrown W dq osq; generalize Go.Sort.grow (redrawn W dq) osq = wq at *
    go_wp2
    all_goals
      go_ret
      exact ⟨ret_bool hh.out.symm, below_then hB hB.size hbq⟩
end Go.Proofs.YtjjiiaclgacfiaaGreatDoor
