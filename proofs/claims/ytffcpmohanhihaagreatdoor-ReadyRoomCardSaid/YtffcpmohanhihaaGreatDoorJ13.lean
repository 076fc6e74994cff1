/-
  The walks of the package clock: each function tells what is written here, for every input; it makes blocks of its own, and changes none. No condition beside 64 numbers in a vector.
  What is known, by place. No condition beside 64 numbers in a vector.
  Vec.Covers. No condition beside 64 numbers in a vector.
  Vec.Next. No condition beside 64 numbers in a vector.
  Vec.clean. No condition beside 64 numbers in a vector.
-/
import Derived.Test.YtffcpmohanhihaaGreatDoorJ2
import Derived.Test.YtffcpmohanhihaaGreatDoorReg
namespace Go.Proofs.YtffcpmohanhihaaGreatDoor
open Go.RowKit
set_option linter.unusedVariables false
set_option linter.unusedSimpArgs false

def kn (x : Int) : Int := if 60 < (if x < 0 then 0 else x) then 60 else (if x < 0 then 0 else x)
theorem kn_range (x : Int) : 0 ≤ kn x ∧ kn x ≤ 60 := by unfold kn; split <;> split <;> omega
def know (v : List Int) (r : Int) : Int := kn (vat v (r.toNat - 1))
theorem know_range (v : List Int) (r : Int) : 0 ≤ know v r ∧ know v r ≤ 60 := kn_range _
def replicaB (r : Int) : Bool := decide (1 ≤ r ∧ r ≤ 64)
theorem replicaB_iff {r : Int} : replicaB r = true ↔ 1 ≤ r ∧ r ≤ 64 := by simp [replicaB]
def goodB (r n : Int) : Bool := replicaB r && decide (1 ≤ n ∧ n ≤ 60)
theorem goodB_iff {r n : Int} : goodB r n = true ↔ (1 ≤ r ∧ r ≤ 64) ∧ 1 ≤ n ∧ n ≤ 60 := by simp [goodB, replicaB]
def hasB (v : List Int) (r n : Int) : Bool := goodB r n && decide (n ≤ know v r)
def nextOf (v : List Int) (r : Int) : Int × Int := if replicaB r = true ∧ know v r ≠ 60 then (r, know v r + 1) else (0, 0)
theorem vec_info (v : List Int) (hv : v.length = 64) : (Tryz.prog.info? 33).map (·.size) = some (vcells v).size := by rw [vcells_size, hv]; kernel_rfl

set_option maxHeartbeats 400000 in
theorem known_any (v : List Int) (r : Int) (w : World) (hv : v.length = 64) (h1 : 1 ≤ r) (h2 : r ≤ 64) :
    Calls Tryz.prog 72 #[.agg (vcells v), .int .i64 r] w fun e w' => e = .returned (.int .i64 (know v r)) ∧ Below w.heap.size w w' := by
  have h : (vcells v)[r.toNat - 1]? = some (.int .i64 (vat v (r.toNat - 1))) := vcells_get v _ (by omega)
  have hs := vcells_size v
  rw [hv] at hs
  have hk : Hid (know v r = kn (vat v (r.toNat - 1))) := rfl
  go_enter Tryz.func72, Tryz.ntmps72
  go_wp2
  all_goals
    go_ret
    refine ⟨ret_int ?_, (Below.refl _ _).alloc (Nat.le_refl _) _⟩
    rw [hk.out]; unfold kn
    generalize vat v (r.toNat - 1) = x at *
    first | omega | (split <;> split <;> simp_all <;> omega)

set_option maxHeartbeats 400000 in
theorem replica_any (r : Int) (w : World) :
    Calls Tryz.prog 94 #[.int .i64 r] w fun e w' => e = .returned (.bool (replicaB r)) ∧ w = w' := by
  by_cases h1 : 1 ≤ r
  · go_enter Tryz.func94, Tryz.ntmps94
    go_wp2
    go_ret
    exact ⟨ret_bool (by unfold replicaB; simp [h1]), rfl⟩
  · have h1' : r < 1 := by omega
    go_enter Tryz.func94, Tryz.ntmps94
    go_wp2
    go_ret
    exact ⟨ret_bool (by unfold replicaB; exact (decide_eq_false (by omega)).symm), rfl⟩

set_option maxHeartbeats 400000 in
theorem Good_any (r n : Int) (w : World) :
    Calls Tryz.prog 67 #[.agg #[.int .i64 r, .int .i64 n]] w fun e w' => e = .returned (.bool (goodB r n)) ∧ Below w.heap.size w w' := by
  cases hr : replicaB r
  · go_enter Tryz.func67, Tryz.ntmps67
    go_wp2_with (go_at_call 94; refine (replica_any _ _).mono ?_; rintro e w' ⟨rfl, rfl⟩; rw [hr])
    go_ret
    exact ⟨ret_bool (by unfold goodB; simp [hr]), (Below.refl _ _).alloc (Nat.le_refl _) _⟩
  · by_cases h1 : 1 ≤ n
    · go_enter Tryz.func67, Tryz.ntmps67
      go_wp2_with (go_at_call 94; refine (replica_any _ _).mono ?_; rintro e w' ⟨rfl, rfl⟩; rw [hr])
      go_ret
      exact ⟨ret_bool (by unfold goodB; simp [hr, h1]), (Below.refl _ _).alloc (Nat.le_refl _) _⟩
    · have h1' : n < 1 := by omega
      go_enter Tryz.func67, Tryz.ntmps67
      go_wp2_with (go_at_call 94; refine (replica_any _ _).mono ?_; rintro e w' ⟨rfl, rfl⟩; rw [hr])
      go_ret
      exact ⟨ret_bool (by unfold goodB; rw [hr, Bool.true_and]; exact (decide_eq_false (by omega)).symm), (Below.refl _ _).alloc (Nat.le_refl _) _⟩
theorem Good_is {r n : Int} {b : Bool} (h : goodB r n = b) (w : World) :
    Calls Tryz.prog 67 #[.agg #[.int .i64 r, .int .i64 n]] w fun e w' => e = .returned (.bool b) ∧ Below w.heap.size w w' := h ▸ Good_any r n w

set_option maxHeartbeats 400000 in
theorem Has_any (v : List Int) (r n : Int) (w : World) (hv : v.length = 64) :
    Calls Tryz.prog 42 #[.agg (vcells v), .agg #[.int .i64 r, .int .i64 n]] w fun e w' => e = .returned (.bool (hasB v r n)) ∧ Below w.heap.size w w' := by
  have hi := vec_info v hv
  cases hg : goodB r n
  · have hh : Hid (hasB v r n = false) := by unfold Hid hasB; rw [hg]; rfl
    go_enter Tryz.func42, Tryz.ntmps42
    go_wp2
    have hB : Below w.heap.size w ((w.alloc (Obj.cells (vcells v) 33)).alloc (Obj.cells #[Value.int .i64 r, Value.int .i64 n] 31)) := ((Below.refl _ _).alloc (Nat.le_refl _) _).alloc (by simp) _
    have c0 : ((w.alloc (Obj.cells (vcells v) 33)).alloc (Obj.cells #[Value.int .i64 r, Value.int .i64 n] 31)).cell? ⟨w.heap.size + 1, 0, none⟩ = some (.int .i64 r) := by simp [go_sem]
    have c1 : ((w.alloc (Obj.cells (vcells v) 33)).alloc (Obj.cells #[Value.int .i64 r, Value.int .i64 n] 31)).cell? ⟨w.heap.size + 1, 1, none⟩ = some (.int .i64 n) := by simp [go_sem]
    generalize ((w.alloc (Obj.cells (vcells v) 33)).alloc (Obj.cells #[Value.int .i64 r, Value.int .i64 n] 31)) = W at *
    have k0 := cell_regrown c0
    have k1 := cell_regrown c1
    have cG := grown_calls (w := W) (fun W' _ => Good_is hg W')
    refine wp_region_quiet_below (by kernel_rfl) (by kernel_rfl) ?_
    repeat (quiet_step (exact cG _ _))
    refine wpQuiet_nil ?_; rintro wq ⟨⟨dq, osq⟩, rfl⟩; have hbq := below_regrown W dq osq; generalize Go.Sort.grow (redrawn W dq) osq = wq at *
    go_wp2
    go_ret
    exact ⟨ret_bool hh.out.symm, below_then hB hB.size hbq⟩
  · have hr := (goodB_iff.1 hg).1
    have hR := Lib.hid hr; clear hr
    have hh : Hid (hasB v r n = decide (n ≤ know v r)) := by unfold Hid hasB; rw [hg]; rfl
    go_enter Tryz.func42, Tryz.ntmps42
    go_wp2
    have hB : Below w.heap.size w ((w.alloc (Obj.cells (vcells v) 33)).alloc (Obj.cells #[Value.int .i64 r, Value.int .i64 n] 31)) := ((Below.refl _ _).alloc (Nat.le_refl _) _).alloc (by simp) _
    have c0 : ((w.alloc (Obj.cells (vcells v) 33)).alloc (Obj.cells #[Value.int .i64 r, Value.int .i64 n] 31)).cell? ⟨w.heap.size + 1, 0, none⟩ = some (.int .i64 r) := by simp [go_sem]
    have c1 : ((w.alloc (Obj.cells (vcells v) 33)).alloc (Obj.cells #[Value.int .i64 r, Value.int .i64 n] 31)).cell? ⟨w.heap.size + 1, 1, none⟩ = some (.int .i64 n) := by simp [go_sem]
    have hg0 : ((w.alloc (Obj.cells (vcells v) 33)).alloc (Obj.cells #[Value.int .i64 r, Value.int .i64 n] 31)).heap[w.heap.size]? = some (Obj.cells (vcells v) 33) := heap_alloc2_old _ _ _
    generalize ((w.alloc (Obj.cells (vcells v) 33)).alloc (Obj.cells #[Value.int .i64 r, Value.int .i64 n] 31)) = W at *
    have k0 := cell_regrown c0
    have k1 := cell_regrown c1
    have cG := grown_calls (w := W) (fun W' _ => Good_is hg W')
    have cK := grown_calls (w := W) (fun W' _ => known_any v r W' hv hR.out.1 hR.out.2)
    refine wp_region_quiet_below (by kernel_rfl) (by kernel_rfl) ?_
    repeat (first | (refine BigFrame.wpQuiet_want rfl (fun K hK => ?_); refine quiet_load_row 33 (.tmp 2) rfl _ rfl 33 _ (0, 0) _ (row_regrown hg0) Tryz.underlying33 rfl hi ?_; refine hK _ ?_; clear hK K) | (quiet_step (first | with_reducible exact cG _ _ | with_reducible exact cK _ _)))
    refine wpQuiet_nil ?_; rintro wq ⟨⟨dq, osq⟩, rfl⟩; have hbq := below_regrown W dq osq; generalize Go.Sort.grow (redrawn W dq) osq = wq at *
    go_wp2
    all_goals
      go_ret
      exact ⟨ret_bool hh.out.symm, below_then hB hB.size hbq⟩

end Go.Proofs.YtffcpmohanhihaaGreatDoor
namespace Go.Proofs.YtffcpmohanhihaaGreatDoor
open Go.RowKit Go.Sort
set_option linter.unusedVariables false
set_option linter.unusedSimpArgs false
theorem know_succ (v : List Int) (k : Nat) : know v (k + 1 : Nat) = kn (vat v k) := by unfold know; congr 1
theorem know_add (v : List Int) (k : Nat) : know v ((k : Int) + 1) = kn (vat v k) := know_succ v k
end Go.Proofs.YtffcpmohanhihaaGreatDoor
namespace Go.Proofs.YtffcpmohanhihaaGreatDoor
open Go.RowKit Go.Sort
set_option linter.unusedVariables false
set_option linter.unusedSimpArgs false
def coversTo (v u : List Int) (k : Nat) : Prop := ∀ i, i < k → kn (vat u i) ≤ kn (vat v i)
def coversB (v u : List Int) : Bool := (List.range 64).all fun i => decide (kn (vat u i) ≤ kn (vat v i))
theorem coversB_iff {v u : List Int} : coversB v u = true ↔ coversTo v u 64 := by simp [coversB, coversTo]
set_option maxRecDepth 100000 in
set_option maxHeartbeats 400000 in
theorem Covers_any (v u : List Int) (w : World) (hv : v.length = 64) (hu : u.length = 64) :
    Calls Tryz.prog 43 #[.agg (vcells v), .agg (vcells u)] w fun e w' => e = .returned (.bool (coversB v u)) ∧ Below w.heap.size w w' := by
  have hi := vec_info v hv
  have hj := vec_info u hu
  go_enter Tryz.func43, Tryz.ntmps43
  go_wp2
  go_loopw [5] (fun i wr => ∃ k : Nat, k ≤ 64 ∧ i = .int .i64 (k + 1 : Nat) ∧ Hid (coversTo v u k) ∧ Below w.heap.size w wr ∧ wr.heap[w.heap.size]? = some (.cells (vcells v) 33 (0, 0)) ∧ wr.heap[w.heap.size + 1]? = some (.cells (vcells u) 33 (0, 0))) (fun i _ => 65 - (intOf i).toNat)
  case atStart => exact ⟨0, by omega, rfl, fun i h => absurd h (by omega), ((Below.refl _ _).alloc (Nat.le_refl _) _).alloc (by simp) _, heap_alloc2_old _ _ _, heap_alloc2_new _ _ _⟩
  case round =>
    rename_i wr
    obtain ⟨k, hk, rfl, hco, hb, hg0, hg1⟩ := hrel
    by_cases hlt : k < 64
    · have cV := grown_calls (w := wr) (fun W' _ => known_any v ((k : Int) + 1) W' hv (by omega) (by omega))
      have cU := grown_calls (w := wr) (fun W' _ => known_any u ((k : Int) + 1) W' hu (by omega) (by omega))
      by_cases hc : know v ((k : Int) + 1) < know u ((k : Int) + 1)
      · go_wp2
        refine wp_region_quiet_below (by kernel_rfl) (by kernel_rfl) ?_
        repeat (first | (refine BigFrame.wpQuiet_want rfl (fun K hK => ?_); refine quiet_load_row 33 (.tmp 2) rfl _ rfl 33 _ (0, 0) _ (row_regrown hg0) Tryz.underlying33 rfl hi ?_; refine hK _ ?_; clear hK K) | (refine BigFrame.wpQuiet_want rfl (fun K hK => ?_); refine quiet_load_row 33 (.tmp 3) rfl _ rfl 33 _ (0, 0) _ (row_regrown hg1) Tryz.underlying33 rfl hj ?_; refine hK _ ?_; clear hK K) | (quiet_step (first | with_reducible exact cV _ _ | with_reducible exact cU _ _)))
        refine wpQuiet_nil ?_; rintro wq ⟨⟨dq, osq⟩, rfl⟩; have hbq := below_regrown wr dq osq; generalize Go.Sort.grow (redrawn wr dq) osq = wq at *
        go_wp2
        go_ret
        refine ⟨ret_bool ?_, below_then hb hb.size hbq⟩
        refine (Bool.eq_false_iff.2 fun h => ?_).symm
        have := coversB_iff.1 h k hlt
        rw [know_add, know_add] at hc
        omega
      · go_wp2
        refine wp_region_quiet_below (by kernel_rfl) (by kernel_rfl) ?_
        repeat (first | (refine BigFrame.wpQuiet_want rfl (fun K hK => ?_); refine quiet_load_row 33 (.tmp 2) rfl _ rfl 33 _ (0, 0) _ (row_regrown hg0) Tryz.underlying33 rfl hi ?_; refine hK _ ?_; clear hK K) | (refine BigFrame.wpQuiet_want rfl (fun K hK => ?_); refine quiet_load_row 33 (.tmp 3) rfl _ rfl 33 _ (0, 0) _ (row_regrown hg1) Tryz.underlying33 rfl hj ?_; refine hK _ ?_; clear hK K) | (quiet_step (first | with_reducible exact cV _ _ | with_reducible exact cU _ _)))
        refine wpQuiet_nil ?_; rintro wq ⟨⟨dq, osq⟩, rfl⟩; have hbq := below_regrown wr dq osq; generalize Go.Sort.grow (redrawn wr dq) osq = wq at *
        have hs0 : w.heap.size < wr.heap.size := (Array.getElem?_eq_some_iff.1 hg0).1
        have hs1 : w.heap.size + 1 < wr.heap.size := (Array.getElem?_eq_some_iff.1 hg1).1
        have hg0' := (hbq.block _ hs0).trans hg0
        have hg1' := (hbq.block _ hs1).trans hg1
        go_wp2
        go_roundw
        case rel =>
          refine ⟨k + 1, by omega, by go_num, fun i h => ?_, below_then hb hb.size hbq, hg0', hg1'⟩
          rcases Nat.lt_or_ge i k with h1 | h1
          · exact hco.out i h1
          · obtain rfl : i = k := by omega
            rw [know_add, know_add] at hc
            omega
        case measure => simp [intOf]; omega
    · obtain rfl : k = 64 := by omega
      go_wp2
      go_ret
      exact ⟨ret_bool (coversB_iff.2 hco.out).symm, hb⟩
end Go.Proofs.YtffcpmohanhihaaGreatDoor
namespace Go.Proofs.YtffcpmohanhihaaGreatDoor
open Go.RowKit Go.Sort
set_option linter.unusedVariables false
set_option linter.unusedSimpArgs false
set_option maxHeartbeats 400000 in
theorem Next_any (v : List Int) (r : Int) (w : World) (hv : v.length = 64) :
    Calls Tryz.prog 75 #[.agg (vcells v), .int .i64 r] w fun e w' => e = .returned (.agg #[.int .i64 (nextOf v r).1, .int .i64 (nextOf v r).2]) ∧ Below w.heap.size w w' := by
  have hs := vcells_size v
  rw [hv] at hs
  have hkr := know_range v r
  have hi := vec_info v hv
  cases hr : replicaB r
  · have hn : Hid (nextOf v r = (0, 0)) := by unfold Hid nextOf; rw [if_neg (by simp [hr])]
    go_enter Tryz.func75, Tryz.ntmps75
    go_wp2_with (go_at_call 94; refine (replica_any _ _).mono ?_; rintro e w' ⟨rfl, rfl⟩; rw [hr])
    refine bodyPost_ret (v := .agg #[.int .i64 0, .int .i64 0]) (by simp [results, Tryz.results75, go_sem]) rfl ⟨by rw [hn.out], ?_⟩
    (repeat (first | exact Below.refl _ _ | assumption | (refine Below.setCell ?_ (by first | (simp; done) | omega | (simp; omega)) _) | (refine Below.alloc ?_ (by first | (simp; done) | omega | (simp; omega)) _) | fail))
  · have hr2 : 1 ≤ r ∧ r ≤ 64 := by simpa [replicaB] using hr
    have H := Lib.hid hr2; clear hr2
    by_cases h60 : know v r = 60
    · have hn : Hid (nextOf v r = (0, 0)) := by unfold Hid nextOf; rw [if_neg (by simp [h60])]
      go_enter Tryz.func75, Tryz.ntmps75
      go_wp2_with (first | (go_at_call 94; refine (replica_any _ _).mono ?_; rintro e w' ⟨rfl, rfl⟩; rw [hr]) | (refine wpList_load_row' rfl 33 (.tmp 2) rfl _ rfl 33 _ (0, 0) _ (heap_alloc2_old _ _ _) Tryz.underlying33 rfl hi ?_) | (go_at_call 72; refine (known_any _ _ _ hv H.out.1 H.out.2).mono ?_; rintro e w1 ⟨rfl, hb1⟩; rw [h60]; obtain ⟨hc1, hf1⟩ := bcell hb1))
      have hz : w.heap.size + 1 < w1.heap.size := by have := hb1.size; simp at this; omega
      refine bodyPost_ret (v := .agg #[.int .i64 0, .int .i64 0]) (by simp [results, Tryz.results75, go_sem, hc1, hf1, hz]) rfl ⟨by rw [hn.out], ?_⟩
      (repeat (first | exact Below.refl _ _ | assumption | (refine Below.setCell ?_ (by first | (simp; done) | omega | (simp; omega)) _) | (refine Below.alloc ?_ (by first | (simp; done) | omega | (simp; omega)) _) | (refine Below.trans ?_ (Below.mono hb1 (by first | (simp; done) | omega | (simp; omega))))))
    · have h61 : (know v r == 60) = false := by simpa using h60
      have hn : Hid (nextOf v r = (r, know v r + 1)) := by unfold Hid nextOf; rw [if_pos ⟨hr, h60⟩]
      go_enter Tryz.func75, Tryz.ntmps75
      go_wp2_with (first | (go_at_call 94; refine (replica_any _ _).mono ?_; rintro e w' ⟨rfl, rfl⟩; rw [hr]) | (refine wpList_load_row' rfl 33 (.tmp 2) rfl _ rfl 33 _ (0, 0) _ (heap_alloc2_old _ _ _) Tryz.underlying33 rfl hi ?_) | (go_at_call 72; refine (known_any _ _ _ hv H.out.1 H.out.2).mono ?_; rintro e w1 ⟨rfl, hb1⟩; obtain ⟨hc1, hf1⟩ := bcell hb1; have hg1 := (hb1.block w.heap.size (by simp; omega)).trans (heap_alloc2_old _ _ _)) | (refine wpList_load_row' rfl 33 (.tmp 2) rfl _ rfl 33 _ (0, 0) _ hg1 Tryz.underlying33 rfl hi ?_))
      refine (known_any _ _ _ hv H.out.1 H.out.2).mono ?_
      rintro e w2 ⟨rfl, hb2⟩
      obtain ⟨hc2, hf2⟩ := bcell hb2
      have hz : w.heap.size + 1 < w1.heap.size := by have := hb1.size; simp at this; omega
      have hz2 : w.heap.size + 1 < w2.heap.size := Nat.lt_of_lt_of_le hz hb2.size
      go_wp2
      refine bodyPost_ret (v := .agg #[.int .i64 r, .int .i64 (know v r + 1)]) (by simp [results, Tryz.results75, go_sem, hc1, hf1, hz, hc2, hf2, hz2]) rfl ⟨by rw [hn.out], ?_⟩
      (repeat (first | exact Below.refl _ _ | assumption | (refine Below.setCell ?_ (by first | (simp; done) | omega | (simp; omega)) _) | (refine Below.alloc ?_ (by first | (simp; done) | omega | (simp; omega)) _) | (refine Below.trans ?_ (Below.mono hb2 (by first | (simp; done) | omega | (simp; omega)))) | (refine Below.trans ?_ (Below.mono hb1 (by first | (simp; done) | omega | (simp; omega))))))
end Go.Proofs.YtffcpmohanhihaaGreatDoor
namespace Go.Proofs.YtffcpmohanhihaaGreatDoor
open Go.RowKit Go.Sort
set_option linter.unusedVariables false
set_option linter.unusedSimpArgs false
/-- The first k brought within their bounds. -/
def cleanTo (v : List Int) (k : Nat) : List Int := (v.take k).map kn ++ v.drop k
def cleanOf (v : List Int) : List Int := v.map kn
theorem cleanTo_length (v : List Int) (k : Nat) (h : k ≤ v.length) : (cleanTo v k).length = v.length := by simp [cleanTo]; omega
theorem cleanTo_zero (v : List Int) : cleanTo v 0 = v := by simp [cleanTo]
theorem cleanTo_all (v : List Int) : cleanTo v v.length = cleanOf v := by simp [cleanTo, cleanOf]
theorem cleanOf_length (v : List Int) : (cleanOf v).length = v.length := by simp [cleanOf]
theorem cleanTo_at (v : List Int) (k : Nat) (h : k < v.length) : vat (cleanTo v k) k = vat v k := by
  simp [cleanTo, vat, List.getD_eq_getElem?_getD, List.getElem?_append, Nat.min_eq_left (Nat.le_of_lt h)]
theorem cleanOf_at (v : List Int) (k : Nat) (h : k < v.length) : vat (cleanOf v) k = kn (vat v k) := by
  simp [cleanOf, vat, List.getD_eq_getElem?_getD, List.getElem?_eq_getElem h]
theorem cleanTo_step (v : List Int) (k : Nat) (h : k < v.length) : (cleanTo v k).set k (kn (vat v k)) = cleanTo v (k + 1) := by
  apply List.ext_getElem?
  intro i
  simp only [cleanTo, List.getElem?_set, List.getElem?_append, List.length_map, List.length_take, List.getElem?_map, List.getElem?_take, List.getElem?_drop, List.length_append, List.length_drop]
  rcases Nat.lt_trichotomy i k with hi | hi | hi
  · rw [if_neg (by omega), if_pos (by omega), if_pos hi, if_pos (by omega), if_pos (by omega)]
  · subst hi
    rw [if_pos rfl, if_pos (by omega), if_pos (by omega), if_pos (by omega)]
    simp [vat, List.getD_eq_getElem?_getD, List.getElem?_eq_getElem h]
  · rw [if_neg (by omega), if_neg (by omega), if_neg (by omega)]
    congr 1; omega
set_option maxRecDepth 100000 in
set_option maxHeartbeats 400000 in
theorem clean_any (v : List Int) (w : World) (hv : v.length = 64) :
    Calls Tryz.prog 76 #[.agg (vcells v)] w fun e w' => e = .returned (.agg (vcells (cleanOf v))) ∧ Below w.heap.size w w' := by
  have hs := vcells_size v
  rw [hv] at hs
  go_enter Tryz.func76, Tryz.ntmps76
  go_wp2
  go_loopw [3] (fun i wr => ∃ k : Nat, k ≤ 64 ∧ i = .int .i64 (k + 1 : Nat) ∧ Below w.heap.size w wr ∧ wr.heap[w.heap.size]? = some (.cells (vcells (cleanTo v k)) 33 (0, 0)) ∧ wr.heap[w.heap.size + 1]? = some (.cells (vcells (List.replicate 64 0)) 33 (0, 0))) (fun i _ => 65 - (intOf i).toNat)
  case atStart => exact ⟨0, by omega, rfl, ((Below.refl _ _).alloc (Nat.le_refl _) _).alloc (by simp) _, by rw [cleanTo_zero]; exact heap_alloc2_old _ _ _, heap_alloc2_new _ _ _⟩
  case round =>
    rename_i wr
    obtain ⟨k, hk, rfl, hb, hg, hg2⟩ := hrel
    have hl := cleanTo_length v k (by omega)
    rw [hv] at hl
    have hi := vec_info _ hl
    have hzz : w.heap.size + 1 < wr.heap.size := (Array.getElem?_eq_some_iff.1 hg2).1
    by_cases hlt : k < 64
    · go_wp2_with (refine wpList_load_row' rfl 33 (.tmp 1) rfl _ rfl 33 _ (0, 0) _ hg Tryz.underlying33 rfl hi ?_)
      refine (known_any _ _ _ hl (by omega) (by omega)).mono ?_
      rintro e w1 ⟨rfl, hb1⟩
      have hg1 : w1.heap[w.heap.size]? = some (.cells (vcells (cleanTo v k)) 33 (0, 0)) := (hb1.block _ (by omega)).trans hg
      have hg3 : w1.heap[w.heap.size + 1]? = some (.cells (vcells (List.replicate 64 0)) 33 (0, 0)) := (hb1.block _ (by omega)).trans hg2
      have hB1 : Below w.heap.size w w1 := below_then hb (by omega) hb1
      have hc : w1.cell? ⟨w.heap.size, k, none⟩ = some (.int .i64 (vat (cleanTo v k) k)) := by
        rw [cell_of_row w1 _ _ _ _ _ hg1]; exact vcells_get _ _ (by omega)
      have hf : w1.frozen? ⟨w.heap.size, k, none⟩ = false := frozen_of_row w1 _ _ _ _ hg1
      have hK : Hid (know (cleanTo v k) ((k : Int) + 1) = kn (vat v k)) := by
        unfold Hid; rw [know_add, cleanTo_at v k (by omega)]
      clear hs hi
      go_wp2
      go_roundw
      case rel =>
        refine ⟨k + 1, by omega, by go_num, hB1.setCell (by simp) _, ?_, ?_⟩
        · rw [heap_setCell_same _ _ _ _ _ _ hg1, vcells_set, hK.out, cleanTo_step v k (by omega)]
        · rw [heap_setCell_other _ _ _ _ (by simp)]; exact hg3
      case measure => simp [intOf]; omega
    · obtain rfl : k = 64 := by omega
      have he : cleanTo v 64 = cleanOf v := by rw [← hv]; exact cleanTo_all v
      rw [he] at hg hl hi
      clear hs he
      go_wp2_with (first | (refine wpList_load_row' rfl 33 (.tmp 1) rfl _ rfl 33 _ (0, 0) _ hg Tryz.underlying33 rfl hi ?_) | (refine wpList_store_row rfl 33 (.tmp 2) (.tmp 14) rfl _ _ rfl rfl 33 _ hg2 hi (by simp [vcells_size, hl]) (vcells_one _) ?_; intro w2 hb2 hg4 _ hs2))
      exact bodyPost_ret (v := .agg (vcells (cleanOf v))) (results_cell_row rfl _ _ _ _ _ _ _ rfl hg4 Tryz.underlying33 rfl hi) rfl ⟨rfl, hb.trans (hb2.mono (by omega))⟩
end Go.Proofs.YtffcpmohanhihaaGreatDoor
