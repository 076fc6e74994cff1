/-
  The walks of the package clock: each function tells what is written here, for every input; it makes blocks of its own, and changes none. No condition beside 64 numbers in a vector.
-/
import Derived.Test.YtlmligchjjgcmaaClkBase
namespace Go.Proofs.Ytlmligchjjgcmaa
open Go.RowKit
set_option linter.unusedVariables false
set_option linter.unusedSimpArgs false

def kn (x : Int) : Int := if 60 < (if x < 0 then 0 else x) then 60 else (if x < 0 then 0 else x)
theorem kn_range (x : Int) : 0 ≤ kn x ∧ kn x ≤ 60 := by unfold kn; split <;> split <;> omega
def know (v : List Int) (r : Int) : Int := kn (vat v (r.toNat - 1))
theorem know_range (v : List Int) (r : Int) : 0 ≤ know v r ∧ know v r ≤ 60 := kn_range _
def replicaB (r : Int) : Bool := decide (1 ≤ r ∧ r ≤ 64)
theorem replicaB_iff {r : Int} : replicaB r = true ↔ 1 ≤ r ∧ r ≤ 64 := by simp [replicaB]
def goodB (r n : Int) : Bool := replicaB r && decide (1 ≤ n ∧ n ≤ 60)
theorem goodB_iff {r n : Int} : goodB r n = true ↔ (1 ≤ r ∧ r ≤ 64) ∧ 1 ≤ n ∧ n ≤ 60 := by simp [goodB, replicaB]
def lessB (r n r' n' : Int) : Bool := decide (n < n' ∨ n = n' ∧ r < r')
def hasB (v : List Int) (r n : Int) : Bool := goodB r n && decide (n ≤ know v r)
def nextOf (v : List Int) (r : Int) : Int × Int := if replicaB r = true ∧ know v r ≠ 60 then (r, know v r + 1) else (0, 0)
theorem vec_info (v : List Int) (hv : v.length = 64) : (Try.prog.info? 24).map (·.size) = some (vcells v).size := by rw [vcells_size, hv]; kernel_rfl

set_option maxHeartbeats 400000 in
theorem known_any (v : List Int) (r : Int) (w : World) (hv : v.length = 64) (h1 : 1 ≤ r) (h2 : r ≤ 64) :
    Calls Try.prog 17 #[.agg (vcells v), .int .i64 r] w fun e w' => e = .returned (.int .i64 (know v r)) ∧ Below w.heap.size w w' := by
  have h : (vcells v)[r.toNat - 1]? = some (.int .i64 (vat v (r.toNat - 1))) := vcells_get v _ (by omega)
  have hs := vcells_size v
  rw [hv] at hs
  have hk : Hid (know v r = kn (vat v (r.toNat - 1))) := rfl
  go_enter Try.func17, Try.ntmps17
  go_wp2
  all_goals
    go_ret
    refine ⟨ret_int ?_, (Below.refl _ _).alloc (Nat.le_refl _) _⟩
    rw [hk.out]; unfold kn
    generalize vat v (r.toNat - 1) = x at *
    first | omega | (split <;> split <;> simp_all <;> omega)

set_option maxHeartbeats 400000 in
theorem replica_any (r : Int) (w : World) :
    Calls Try.prog 18 #[.int .i64 r] w fun e w' => e = .returned (.bool (replicaB r)) ∧ w = w' := by
  by_cases h1 : 1 ≤ r
  · go_enter Try.func18, Try.ntmps18
    go_wp2
    go_ret
    exact ⟨ret_bool (by unfold replicaB; simp [h1]), rfl⟩
  · have h1' : r < 1 := by omega
    go_enter Try.func18, Try.ntmps18
    go_wp2
    go_ret
    exact ⟨ret_bool (by unfold replicaB; exact (decide_eq_false (by omega)).symm), rfl⟩

set_option maxHeartbeats 400000 in
theorem Good_any (r n : Int) (w : World) :
    Calls Try.prog 10 #[.agg #[.int .i64 r, .int .i64 n]] w fun e w' => e = .returned (.bool (goodB r n)) ∧ Below w.heap.size w w' := by
  cases hr : replicaB r
  · go_enter Try.func10, Try.ntmps10
    go_wp2_with (go_at_call 18; refine (replica_any _ _).mono ?_; rintro e w' ⟨rfl, rfl⟩; rw [hr])
    go_ret
    exact ⟨ret_bool (by unfold goodB; simp [hr]), (Below.refl _ _).alloc (Nat.le_refl _) _⟩
  · by_cases h1 : 1 ≤ n
    · go_enter Try.func10, Try.ntmps10
      go_wp2_with (go_at_call 18; refine (replica_any _ _).mono ?_; rintro e w' ⟨rfl, rfl⟩; rw [hr])
      go_ret
      exact ⟨ret_bool (by unfold goodB; simp [hr, h1]), (Below.refl _ _).alloc (Nat.le_refl _) _⟩
    · have h1' : n < 1 := by omega
      go_enter Try.func10, Try.ntmps10
      go_wp2_with (go_at_call 18; refine (replica_any _ _).mono ?_; rintro e w' ⟨rfl, rfl⟩; rw [hr])
      go_ret
      exact ⟨ret_bool (by unfold goodB; rw [hr, Bool.true_and]; exact (decide_eq_false (by omega)).symm), (Below.refl _ _).alloc (Nat.le_refl _) _⟩
theorem Good_is {r n : Int} {b : Bool} (h : goodB r n = b) (w : World) :
    Calls Try.prog 10 #[.agg #[.int .i64 r, .int .i64 n]] w fun e w' => e = .returned (.bool b) ∧ Below w.heap.size w w' := h ▸ Good_any r n w

set_option maxHeartbeats 400000 in
theorem Less_any (r n r' n' : Int) (w : World) :
    Calls Try.prog 15 #[.agg #[.int .i64 r, .int .i64 n], .agg #[.int .i64 r', .int .i64 n']] w fun e w' => e = .returned (.bool (lessB r n r' n')) ∧ Below w.heap.size w w' := by
  by_cases h1 : n < n'
  · go_enter Try.func15, Try.ntmps15
    go_wp2
    go_ret
    exact ⟨ret_bool (by unfold lessB; simp [h1]), ((Below.refl _ _).alloc (Nat.le_refl _) _).alloc (by simp) _⟩
  · by_cases h2 : n = n'
    · subst h2
      go_enter Try.func15, Try.ntmps15
      go_wp2
      go_ret
      exact ⟨ret_bool (by unfold lessB; simp), ((Below.refl _ _).alloc (Nat.le_refl _) _).alloc (by simp) _⟩
    · have h1' : n' ≤ n := by omega
      have h3 : (n == n') = false := by simpa using h2
      go_enter Try.func15, Try.ntmps15
      go_wp2
      go_ret
      exact ⟨ret_bool (by unfold lessB; simp [h1, h2]), ((Below.refl _ _).alloc (Nat.le_refl _) _).alloc (by simp) _⟩

set_option maxHeartbeats 400000 in
theorem Next_any (v : List Int) (r : Int) (w : World) (hv : v.length = 64) :
    Calls Try.prog 8 #[.agg (vcells v), .int .i64 r] w fun e w' => e = .returned (.agg #[.int .i64 (nextOf v r).1, .int .i64 (nextOf v r).2]) ∧ Below w.heap.size w w' := by
  have hs := vcells_size v
  rw [hv] at hs
  have hkr := know_range v r
  have hi := vec_info v hv
  cases hr : replicaB r
  · have hn : Hid (nextOf v r = (0, 0)) := by unfold Hid nextOf; rw [if_neg (by simp [hr])]
    go_enter Try.func8, Try.ntmps8
    go_wp2_with (go_at_call 18; refine (replica_any _ _).mono ?_; rintro e w' ⟨rfl, rfl⟩; rw [hr])
    refine bodyPost_ret (v := .agg #[.int .i64 0, .int .i64 0]) (by simp [results, Try.results8, go_sem]) rfl ⟨by rw [hn.out], ?_⟩
    (repeat (first | exact Below.refl _ _ | assumption | (refine Below.setCell ?_ (by first | (simp; done) | omega | (simp; omega)) _) | (refine Below.alloc ?_ (by first | (simp; done) | omega | (simp; omega)) _) | fail))
  · have hr2 : 1 ≤ r ∧ r ≤ 64 := by simpa [replicaB] using hr
    have H := Lib.hid hr2; clear hr2
    by_cases h60 : know v r = 60
    · have hn : Hid (nextOf v r = (0, 0)) := by unfold Hid nextOf; rw [if_neg (by simp [h60])]
      go_enter Try.func8, Try.ntmps8
      go_wp2_with (first | (go_at_call 18; refine (replica_any _ _).mono ?_; rintro e w' ⟨rfl, rfl⟩; rw [hr]) | (refine wpList_load_row' rfl 24 (.tmp 2) rfl _ rfl 24 _ (0, 0) _ (heap_alloc2_old _ _ _) Try.underlying24 rfl hi ?_) | (go_at_call 17; refine (known_any _ _ _ hv H.out.1 H.out.2).mono ?_; rintro e w1 ⟨rfl, hb1⟩; rw [h60]; obtain ⟨hc1, hf1⟩ := bcell hb1))
      have hz : w.heap.size + 1 < w1.heap.size := by have := hb1.size; simp at this; omega
      refine bodyPost_ret (v := .agg #[.int .i64 0, .int .i64 0]) (by simp [results, Try.results8, go_sem, hc1, hf1, hz]) rfl ⟨by rw [hn.out], ?_⟩
      (repeat (first | exact Below.refl _ _ | assumption | (refine Below.setCell ?_ (by first | (simp; done) | omega | (simp; omega)) _) | (refine Below.alloc ?_ (by first | (simp; done) | omega | (simp; omega)) _) | (refine Below.trans ?_ (Below.mono hb1 (by first | (simp; done) | omega | (simp; omega))))))
    · have h61 : (know v r == 60) = false := by simpa using h60
      have hn : Hid (nextOf v r = (r, know v r + 1)) := by unfold Hid nextOf; rw [if_pos ⟨hr, h60⟩]
      go_enter Try.func8, Try.ntmps8
      go_wp2_with (first | (go_at_call 18; refine (replica_any _ _).mono ?_; rintro e w' ⟨rfl, rfl⟩; rw [hr]) | (refine wpList_load_row' rfl 24 (.tmp 2) rfl _ rfl 24 _ (0, 0) _ (heap_alloc2_old _ _ _) Try.underlying24 rfl hi ?_) | (go_at_call 17; refine (known_any _ _ _ hv H.out.1 H.out.2).mono ?_; rintro e w1 ⟨rfl, hb1⟩; obtain ⟨hc1, hf1⟩ := bcell hb1; have hg1 := (hb1.block w.heap.size (by simp; omega)).trans (heap_alloc2_old _ _ _)) | (refine wpList_load_row' rfl 24 (.tmp 2) rfl _ rfl 24 _ (0, 0) _ hg1 Try.underlying24 rfl hi ?_))
      refine (known_any _ _ _ hv H.out.1 H.out.2).mono ?_
      rintro e w2 ⟨rfl, hb2⟩
      obtain ⟨hc2, hf2⟩ := bcell hb2
      have hz : w.heap.size + 1 < w1.heap.size := by have := hb1.size; simp at this; omega
      have hz2 : w.heap.size + 1 < w2.heap.size := Nat.lt_of_lt_of_le hz hb2.size
      go_wp2
      refine bodyPost_ret (v := .agg #[.int .i64 r, .int .i64 (know v r + 1)]) (by simp [results, Try.results8, go_sem, hc1, hf1, hz, hc2, hf2, hz2]) rfl ⟨by rw [hn.out], ?_⟩
      (repeat (first | exact Below.refl _ _ | assumption | (refine Below.setCell ?_ (by first | (simp; done) | omega | (simp; omega)) _) | (refine Below.alloc ?_ (by first | (simp; done) | omega | (simp; omega)) _) | (refine Below.trans ?_ (Below.mono hb2 (by first | (simp; done) | omega | (simp; omega)))) | (refine Below.trans ?_ (Below.mono hb1 (by first | (simp; done) | omega | (simp; omega))))))
end Go.Proofs.Ytlmligchjjgcmaa
