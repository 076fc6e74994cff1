/-
  The walks of the package clock: each function tells what is written here, for every input; it makes blocks of its own, and changes none. No condition beside 64 numbers in a vector.
-/
import Derived.Test.YteplcnpmdjdlkaaGreatDoorJ2
namespace Go.Proofs.YteplcnpmdjdlkaaGreatDoor
open Go.RowKit
set_option linter.unusedVariables false
set_option linter.unusedSimpArgs false

def kn (x : Int) : Int := if 60 < (if x < 0 then 0 else x) then 60 else (if x < 0 then 0 else x)
theorem kn_range (x : Int) : 0 ≤ kn x ∧ kn x ≤ 60 := by unfold kn; split <;> split <;> omega
def know (v : List Int) (r : Int) : Int := kn (vat v (r.toNat - 1))
theorem know_range (v : List Int) (r : Int) : 0 ≤ know v r ∧ know v r ≤ 60 := kn_range _
def replicaB (r : Int) : Bool := decide (1 ≤ r ∧ r ≤ 64)
theorem replicaB_iff {r : Int} : replicaB r = true ↔ 1 ≤ r ∧ r ≤ 64 := by simp [replicaB]
def goodB (r n : Int) : Bool := replicaB r && decide (1 ≤ n ∧ n ≤ 60)
theorem goodB_iff {r n : Int} : goodB r n = true ↔ (1 ≤ r ∧ r ≤ 64) ∧ 1 ≤ n ∧ n ≤ 60 := by simp [goodB, replicaB]
def hasB (v : List Int) (r n : Int) : Bool := goodB r n && decide (n ≤ know v r)
def nextOf (v : List Int) (r : Int) : Int × Int := if replicaB r = true ∧ know v r ≠ 60 then (r, know v r + 1) else (0, 0)
theorem vec_info (v : List Int) (hv : v.length = 64) : (Tryz.prog.info? 29).map (·.size) = some (vcells v).size := by rw [vcells_size, hv]; kernel_rfl

set_option maxHeartbeats 400000 in
theorem known_any (v : List Int) (r : Int) (w : World) (hv : v.length = 64) (h1 : 1 ≤ r) (h2 : r ≤ 64) :
    Calls Tryz.prog 71 #[.agg (vcells v), .int .i64 r] w fun e w' => e = .returned (.int .i64 (know v r)) ∧ Below w.heap.size w w' := by
  have h : (vcells v)[r.toNat - 1]? = some (.int .i64 (vat v (r.toNat - 1))) := vcells_get v _ (by omega)
  have hs := vcells_size v
  rw [hv] at hs
  have hk : Hid (know v r = kn (vat v (r.toNat - 1))) := rfl
  go_enter Tryz.func71, Tryz.ntmps71
  go_wp2
  all_goals
    go_ret
    refine ⟨ret_int ?_, (Below.refl _ _).alloc (Nat.le_refl _) _⟩
    rw [hk.out]; unfold kn
    generalize vat v (r.toNat - 1) = x at *
    first | omega | (split <;> split <;> simp_all <;> omega)

set_option maxHeartbeats 400000 in
theorem replica_any (r : Int) (w : World) :
    Calls Tryz.prog 49 #[.int .i64 r] w fun e w' => e = .returned (.bool (replicaB r)) ∧ w = w' := by
  by_cases h1 : 1 ≤ r
  · go_enter Tryz.func49, Tryz.ntmps49
    go_wp2
    go_ret
    exact ⟨ret_bool (by unfold replicaB; simp [h1]), rfl⟩
  · have h1' : r < 1 := by omega
    go_enter Tryz.func49, Tryz.ntmps49
    go_wp2
    go_ret
    exact ⟨ret_bool (by unfold replicaB; exact (decide_eq_false (by omega)).symm), rfl⟩

set_option maxHeartbeats 400000 in
theorem Good_any (r n : Int) (w : World) :
    Calls Tryz.prog 34 #[.agg #[.int .i64 r, .int .i64 n]] w fun e w' => e = .returned (.bool (goodB r n)) ∧ Below w.heap.size w w' := by
  cases hr : replicaB r
  · go_enter Tryz.func34, Tryz.ntmps34
    go_wp2_with (go_at_call 49; refine (replica_any _ _).mono ?_; rintro e w' ⟨rfl, rfl⟩; rw [hr])
    go_ret
    exact ⟨ret_bool (by unfold goodB; simp [hr]), (Below.refl _ _).alloc (Nat.le_refl _) _⟩
  · by_cases h1 : 1 ≤ n
    · go_enter Tryz.func34, Tryz.ntmps34
      go_wp2_with (go_at_call 49; refine (replica_any _ _).mono ?_; rintro e w' ⟨rfl, rfl⟩; rw [hr])
      go_ret
      exact ⟨ret_bool (by unfold goodB; simp [hr, h1]), (Below.refl _ _).alloc (Nat.le_refl _) _⟩
    · have h1' : n < 1 := by omega
      go_enter Tryz.func34, Tryz.ntmps34
      go_wp2_with (go_at_call 49; refine (replica_any _ _).mono ?_; rintro e w' ⟨rfl, rfl⟩; rw [hr])
      go_ret
      exact ⟨ret_bool (by unfold goodB; rw [hr, Bool.true_and]; exact (decide_eq_false (by omega)).symm), (Below.refl _ _).alloc (Nat.le_refl _) _⟩
theorem Good_is {r n : Int} {b : Bool} (h : goodB r n = b) (w : World) :
    Calls Tryz.prog 34 #[.agg #[.int .i64 r, .int .i64 n]] w fun e w' => e = .returned (.bool b) ∧ Below w.heap.size w w' := h ▸ Good_any r n w

set_option maxHeartbeats 400000 in
theorem Has_any (v : List Int) (r n : Int) (w : World) (hv : v.length = 64) :
    Calls Tryz.prog 53 #[.agg (vcells v), .agg #[.int .i64 r, .int .i64 n]] w fun e w' => e = .returned (.bool (hasB v r n)) ∧ Below w.heap.size w w' := by
  have hi := vec_info v hv
  cases hg : goodB r n
  · have hh : Hid (hasB v r n = false) := by unfold Hid hasB; rw [hg]; rfl
    go_enter Tryz.func53, Tryz.ntmps53
    go_wp2
    have hB : Below w.heap.size w ((w.alloc (Obj.cells (vcells v) 29)).alloc (Obj.cells #[Value.int .i64 r, Value.int .i64 n] 27)) := ((Below.refl _ _).alloc (Nat.le_refl _) _).alloc (by simp) _
    have c0 : ((w.alloc (Obj.cells (vcells v) 29)).alloc (Obj.cells #[Value.int .i64 r, Value.int .i64 n] 27)).cell? ⟨w.heap.size + 1, 0, none⟩ = some (.int .i64 r) := by simp [go_sem]
    have c1 : ((w.alloc (Obj.cells (vcells v) 29)).alloc (Obj.cells #[Value.int .i64 r, Value.int .i64 n] 27)).cell? ⟨w.heap.size + 1, 1, none⟩ = some (.int .i64 n) := by simp [go_sem]
    generalize ((w.alloc (Obj.cells (vcells v) 29)).alloc (Obj.cells #[Value.int .i64 r, Value.int .i64 n] 27)) = W at *
    have k0 := cell_regrown c0
    have k1 := cell_regrown c1
    have cG := grown_calls (w := W) (fun W' _ => Good_is hg W')
    refine wp_region_quiet_below (by kernel_rfl) (by kernel_rfl) ?_
    repeat (quiet_step (exact cG _ _))
    refine wpQuiet_nil ?_; rintro wq ⟨⟨dq, osq⟩, rfl⟩; have hbq := below_regrown W dq osq; generalize Go.Sort.grow (redrawn W dq) osq = wq at *
    go_wp2
    go_ret
    exact ⟨ret_bool hh.out.symm, below_then hB hB.size hbq⟩
  · have hr := (goodB_iff.1 hg).1
    have hR := Lib.hid hr; clear hr
    have hh : Hid (hasB v r n = decide (n ≤ know v r)) := by unfold Hid hasB; rw [hg]; rfl
    go_enter Tryz.func53, Tryz.ntmps53
    go_wp2
    have hB : Below w.heap.size w ((w.alloc (Obj.cells (vcells v) 29)).alloc (Obj.cells #[Value.int .i64 r, Value.int .i64 n] 27)) := ((Below.refl _ _).alloc (Nat.le_refl _) _).alloc (by simp) _
    have c0 : ((w.alloc (Obj.cells (vcells v) 29)).alloc (Obj.cells #[Value.int .i64 r, Value.int .i64 n] 27)).cell? ⟨w.heap.size + 1, 0, none⟩ = some (.int .i64 r) := by simp [go_sem]
    have c1 : ((w.alloc (Obj.cells (vcells v) 29)).alloc (Obj.cells #[Value.int .i64 r, Value.int .i64 n] 27)).cell? ⟨w.heap.size + 1, 1, none⟩ = some (.int .i64 n) := by simp [go_sem]
    have hg0 : ((w.alloc (Obj.cells (vcells v) 29)).alloc (Obj.cells #[Value.int .i64 r, Value.int .i64 n] 27)).heap[w.heap.size]? = some (Obj.cells (vcells v) 29) := heap_alloc2_old _ _ _
    generalize ((w.alloc (Obj.cells (vcells v) 29)).alloc (Obj.cells #[Value.int .i64 r, Value.int .i64 n] 27)) = W at *
    have k0 := cell_regrown c0
    have k1 := cell_regrown c1
    have cG := grown_calls (w := W) (fun W' _ => Good_is hg W')
    have cK := grown_calls (w := W) (fun W' _ => known_any v r W' hv hR.out.1 hR.out.2)
    refine wp_region_quiet_below (by kernel_rfl) (by kernel_rfl) ?_
    repeat (first | (refine BigFrame.wpQuiet_want rfl (fun K hK => ?_); refine quiet_load_row 29 (.tmp 2) rfl _ rfl 29 _ (0, 0) _ (row_regrown hg0) Tryz.underlying29 rfl hi ?_; refine hK _ ?_; clear hK K) | (quiet_step (first | with_reducible exact cG _ _ | with_reducible exact cK _ _)))
    refine wpQuiet_nil ?_; rintro wq ⟨⟨dq, osq⟩, rfl⟩; have hbq := below_regrown W dq osq; generalize Go.Sort.grow (redrawn W dq) osq = wq at *
    go_wp2
    all_goals
      go_ret
      exact ⟨ret_bool hh.out.symm, below_then hB hB.size hbq⟩

end Go.Proofs.YteplcnpmdjdlkaaGreatDoor
