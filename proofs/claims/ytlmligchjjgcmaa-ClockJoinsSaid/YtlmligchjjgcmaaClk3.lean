/-
  The walks of the package clock, on: clean, Join. No condition beside 64 numbers in a vector.
-/
import Derived.Test.YtlmligchjjgcmaaClk2
import Derived.Test.YtlmligchjjgcmaaReg
namespace Go.Proofs.Ytlmligchjjgcmaa
open Go.RowKit
set_option linter.unusedVariables false
set_option linter.unusedSimpArgs false

/-- The first k brought within their bounds. -/
def cleanTo (v : List Int) (k : Nat) : List Int := (v.take k).map kn ++ v.drop k
def cleanOf (v : List Int) : List Int := v.map kn
theorem cleanTo_length (v : List Int) (k : Nat) (h : k ≤ v.length) : (cleanTo v k).length = v.length := by simp [cleanTo]; omega
theorem cleanTo_zero (v : List Int) : cleanTo v 0 = v := by simp [cleanTo]
theorem cleanTo_all (v : List Int) : cleanTo v v.length = cleanOf v := by simp [cleanTo, cleanOf]
theorem cleanOf_length (v : List Int) : (cleanOf v).length = v.length := by simp [cleanOf]
theorem cleanTo_at (v : List Int) (k : Nat) (h : k < v.length) : vat (cleanTo v k) k = vat v k := by
  simp [cleanTo, vat, List.getD_eq_getElem?_getD, List.getElem?_append, Nat.min_eq_left (Nat.le_of_lt h)]
theorem cleanOf_at (v : List Int) (k : Nat) (h : k < v.length) : vat (cleanOf v) k = kn (vat v k) := by
  simp [cleanOf, vat, List.getD_eq_getElem?_getD, List.getElem?_eq_getElem h]
theorem cleanTo_step (v : List Int) (k : Nat) (h : k < v.length) : (cleanTo v k).set k (kn (vat v k)) = cleanTo v (k + 1) := by
  apply List.ext_getElem?
  intro i
  simp only [cleanTo, List.getElem?_set, List.getElem?_append, List.length_map, List.length_take, List.getElem?_map, List.getElem?_take, List.getElem?_drop, List.length_append, List.length_drop]
  rcases Nat.lt_trichotomy i k with hi | hi | hi
  · rw [if_neg (by omega), if_pos (by omega), if_pos hi, if_pos (by omega), if_pos (by omega)]
  · subst hi
    rw [if_pos rfl, if_pos (by omega), if_pos (by omega), if_pos (by omega)]
    simp [vat, List.getD_eq_getElem?_getD, List.getElem?_eq_getElem h]
  · rw [if_neg (by omega), if_neg (by omega), if_neg (by omega)]
    congr 1; omega

set_option maxHeartbeats 400000 in
theorem clean_any (v : List Int) (w : World) (hv : v.length = 64) :
    Calls Try.prog 16 #[.agg (vcells v)] w fun e w' => e = .returned (.agg (vcells (cleanOf v))) ∧ Below w.heap.size w w' := by
  have hs := vcells_size v
  rw [hv] at hs
  go_enter Try.func16, Try.ntmps16
  go_wp2
  go_loopw [3] (fun i wr => ∃ k : Nat, k ≤ 64 ∧ i = .int .i64 (k + 1 : Nat) ∧ Below w.heap.size w wr ∧ wr.heap[w.heap.size]? = some (.cells (vcells (cleanTo v k)) 24 (0, 0)) ∧ wr.heap[w.heap.size + 1]? = some (.cells (vcells (List.replicate 64 0)) 24 (0, 0))) (fun i _ => 65 - (intOf i).toNat)
  case atStart => exact ⟨0, by omega, rfl, ((Below.refl _ _).alloc (Nat.le_refl _) _).alloc (by simp) _, by rw [cleanTo_zero]; exact heap_alloc2_old _ _ _, heap_alloc2_new _ _ _⟩
  case round =>
    rename_i wr
    obtain ⟨k, hk, rfl, hb, hg, hg2⟩ := hrel
    have hl := cleanTo_length v k (by omega)
    rw [hv] at hl
    have hi := vec_info _ hl
    have hzz : w.heap.size + 1 < wr.heap.size := (Array.getElem?_eq_some_iff.1 hg2).1
    by_cases hlt : k < 64
    · go_wp2_with (refine wpList_load_row' rfl 24 (.tmp 1) rfl _ rfl 24 _ (0, 0) _ hg Try.underlying24 rfl hi ?_)
      refine (known_any _ _ _ hl (by omega) (by omega)).mono ?_
      rintro e w1 ⟨rfl, hb1⟩
      have hg1 : w1.heap[w.heap.size]? = some (.cells (vcells (cleanTo v k)) 24 (0, 0)) := (hb1.block _ (by omega)).trans hg
      have hg3 : w1.heap[w.heap.size + 1]? = some (.cells (vcells (List.replicate 64 0)) 24 (0, 0)) := (hb1.block _ (by omega)).trans hg2
      have hB1 : Below w.heap.size w w1 := below_then hb (by omega) hb1
      have hc : w1.cell? ⟨w.heap.size, k, none⟩ = some (.int .i64 (vat (cleanTo v k) k)) := by
        rw [cell_of_row w1 _ _ _ _ _ hg1]; exact vcells_get _ _ (by omega)
      have hf : w1.frozen? ⟨w.heap.size, k, none⟩ = false := frozen_of_row w1 _ _ _ _ hg1
      have hK : Hid (know (cleanTo v k) ((k : Int) + 1) = kn (vat v k)) := by
        unfold Hid; rw [know_add, cleanTo_at v k (by omega)]
      clear hs hi
      go_wp2
      go_roundw
      case rel =>
        refine ⟨k + 1, by omega, by go_num, hB1.setCell (by simp) _, ?_, ?_⟩
        · rw [heap_setCell_same _ _ _ _ _ _ hg1, vcells_set, hK.out, cleanTo_step v k (by omega)]
        · rw [heap_setCell_other _ _ _ _ (by simp)]; exact hg3
      case measure => simp [intOf]; omega
    · obtain rfl : k = 64 := by omega
      have he : cleanTo v 64 = cleanOf v := by rw [← hv]; exact cleanTo_all v
      rw [he] at hg hl hi
      clear hs he
      go_wp2_with (first | (refine wpList_load_row' rfl 24 (.tmp 1) rfl _ rfl 24 _ (0, 0) _ hg Try.underlying24 rfl hi ?_) | (refine wpList_store_row rfl 24 (.tmp 2) (.tmp 14) rfl _ _ rfl rfl 24 _ hg2 hi (by simp [vcells_size, hl]) (vcells_one _) ?_; intro w2 hb2 hg4 _ hs2))
      exact bodyPost_ret (v := .agg (vcells (cleanOf v))) (results_cell_row rfl _ _ _ _ _ _ _ rfl hg4 Try.underlying24 rfl hi) rfl ⟨rfl, hb.trans (hb2.mono (by omega))⟩

def mx (a b : Int) : Int := if a < b then b else a
/-- The first k of what either knows. -/
def joinTo (v u : List Int) : Nat → List Int
  | 0 => cleanOf v
  | k + 1 => (joinTo v u k).set k (mx (kn (vat v k)) (kn (vat u k)))
theorem joinTo_length (v u : List Int) (k : Nat) : (joinTo v u k).length = v.length := by
  induction k with
  | zero => exact cleanOf_length v
  | succ k ih => simp [joinTo, ih]
theorem joinTo_at (v u : List Int) (k i : Nat) (hk : k ≤ v.length) (hi : i < v.length) : vat (joinTo v u k) i = if i < k then mx (kn (vat v i)) (kn (vat u i)) else kn (vat v i) := by
  induction k with
  | zero => simp [joinTo, cleanOf_at v i hi]
  | succ k ih =>
    simp only [joinTo]
    rw [vat_set _ _ _ _ (by rw [joinTo_length]; omega), ih (by omega)]
    by_cases h : i = k
    · subst h; rw [if_pos rfl, if_pos (by omega)]
    · rw [if_neg h]
      by_cases h2 : i < k
      · rw [if_pos h2, if_pos (by omega)]
      · rw [if_neg h2, if_neg (by omega)]
def joinOf (v u : List Int) : List Int := joinTo v u 64

set_option maxHeartbeats 800000 in
theorem Join_any (v u : List Int) (w : World) (hv : v.length = 64) (hu : u.length = 64) :
    Calls Try.prog 7 #[.agg (vcells v), .agg (vcells u)] w fun e w' => e = .returned (.agg (vcells (joinOf v u))) ∧ Below w.heap.size w w' := by
  have hi := vec_info v hv
  have hj := vec_info u hu
  go_enter Try.func7, Try.ntmps7
  go_wp2_with (refine wpList_load_row' rfl 24 (.tmp 2) rfl _ rfl 24 _ (0, 0) _ (heap3_0 _ _ _ _) Try.underlying24 rfl hi ?_)
  refine (clean_any _ _ hv).mono ?_
  rintro e w1 ⟨rfl, hb1⟩
  have hs1 : w.heap.size + 3 ≤ w1.heap.size := by have := hb1.size; simp at this; omega
  have hl0 := (cleanOf_length v).trans hv
  have hi0 := vec_info _ hl0
  have g0 : w1.heap[w.heap.size]? = some (.cells (vcells v) 24 (0, 0)) := (hb1.block _ (by simp; omega)).trans (heap3_0 _ _ _ _)
  have g1 : w1.heap[w.heap.size + 1]? = some (.cells (vcells u) 24 (0, 0)) := (hb1.block _ (by simp)).trans (heap3_1 _ _ _ _)
  have g2 : w1.heap[w.heap.size + 2]? = some (.cells (vcells (List.replicate 64 0)) 24 (0, 0)) := (hb1.block _ (by simp)).trans (heap3_2 _ _ _ _)
  have hB1 : Below w.heap.size w w1 := by
    (repeat (first | exact Below.refl _ _ | assumption | (refine Below.setCell ?_ (by first | (simp; done) | omega | (simp; omega)) _) | (refine Below.alloc ?_ (by first | (simp; done) | omega | (simp; omega)) _) | (refine Below.trans ?_ (Below.mono hb1 (by first | (simp; done) | omega | (simp; omega))))))
  clear hb1
  go_wp2_with (refine wpList_store_row rfl 24 (.tmp 2) (.tmp 7) rfl _ _ rfl rfl 24 _ g0 hi0 (by simp [vcells_size, hl0, hv]) (vcells_one _) ?_; intro w2 hb2 g3 ho2 hs2)
  have g4 := (ho2 (w.heap.size + 1) (by omega)).trans g1
  have g5 := (ho2 (w.heap.size + 2) (by omega)).trans g2
  have hB2 := hB1.trans hb2
  clear g0 g1 g2 ho2 hb2 hB1
  go_loopw [5] (fun i wr => ∃ k : Nat, k ≤ 64 ∧ i = .int .i64 (k + 1 : Nat) ∧ Below w.heap.size w wr ∧ wr.heap[w.heap.size]? = some (.cells (vcells (joinTo v u k)) 24 (0, 0)) ∧ wr.heap[w.heap.size + 1]? = some (.cells (vcells u) 24 (0, 0)) ∧ wr.heap[w.heap.size + 2]? = some (.cells (vcells (List.replicate 64 0)) 24 (0, 0))) (fun i _ => 65 - (intOf i).toNat)
  case atStart => exact ⟨0, by omega, rfl, hB2, g3, g4, g5⟩
  case round =>
    clear g3 g4 g5 hB2 hs2 hs1
    rename_i wr
    obtain ⟨k, hk, rfl, hb, g0, g1, g2⟩ := hrel
    have hl := (joinTo_length v u k).trans hv
    have hil := vec_info _ hl
    have hzz : w.heap.size + 2 < wr.heap.size := (Array.getElem?_eq_some_iff.1 g2).1
    by_cases hlt : k < 64
    · have hat : vat (joinTo v u k) k = kn (vat v k) := by rw [joinTo_at v u k k (by omega) (by omega)]; simp
      have hc : wr.cell? ⟨w.heap.size, k, none⟩ = some (.int .i64 (kn (vat v k))) := by
        rw [cell_of_row wr _ _ _ _ _ g0, ← hat]; exact vcells_get _ _ (by omega)
      have kc := cell_regrown hc
      have cK := grown_calls (w := wr) (fun W' _ => known_any u ((k : Int) + 1) W' hu (by omega) (by omega))
      have hsz := vcells_size (joinTo v u k)
      rw [hl] at hsz
      have hwk : IntKind.i64.wrap (k : Int) = k := IntWalk.i64_in _ (by omega)
      have hk0 : (0 : Int) ≤ k := by omega
      have hk64 : (k : Int) < 64 := by omega
      have hx : Hid (know u ((k : Int) + 1) = kn (vat u k)) := know_add u k
      go_wp2
      refine wp_region_tail_below 11 (by kernel_rfl) (by kernel_rfl) (by kernel_rfl) (by decide) (by kernel_rfl) ?_; simp only [List.take_succ_cons, List.take_zero, List.drop_succ_cons, List.drop_zero]
      repeat (first | (refine BigFrame.wpQuiet_want rfl (fun K hK => ?_); refine quiet_load_row 24 (.tmp 3) rfl _ rfl 24 _ (0, 0) _ (row_regrown g1) Try.underlying24 rfl hj ?_; refine hK _ ?_; clear hK K) | (quiet_step (with_reducible exact cK _ _)))
      refine wpQuiet_nil ?_; rintro wq ⟨⟨dq, osq⟩, rfl⟩; have hbq := below_regrown wr dq osq; generalize Go.Sort.grow (redrawn wr dq) osq = wq at *
      have hsq := hbq.size
      have q0 := (hbq.block _ (by omega)).trans g0
      have q1 := (hbq.block _ (by omega)).trans g1
      have q2 := (hbq.block _ (by omega)).trans g2
      have qf : wq.frozen? ⟨w.heap.size, k, none⟩ = false := frozen_of_row wq _ _ _ _ q0
      have qc : wq.cell? ⟨w.heap.size, k, none⟩ = some (.int .i64 (kn (vat v k))) := by rw [hbq.cell (p := ⟨w.heap.size, k, none⟩) (show w.heap.size < wr.heap.size by omega)]; exact hc
      have qb := below_then hb hb.size hbq
      clear cK hsz
      go_wp2
      all_goals
        go_roundw
        case rel =>
          refine ⟨k + 1, by omega, by go_num, qb.setCell (by simp) _, ?_, ?_, ?_⟩
          · rw [heap_setCell_same _ _ _ _ _ _ q0, vcells_set]
            simp only [joinTo, mx]
            rw [← hx.out]
            all_goals (by_cases hlt2 : kn (vat v k) < know u ((k : Int) + 1) <;> simp [hlt2] <;> omega)
          · exact (heap_setCell_other _ _ _ _ (by simp)).trans q1
          · exact (heap_setCell_other _ _ _ _ (by simp)).trans q2
        case measure => (simp [intOf]; try omega)
    · obtain rfl : k = 64 := by omega
      go_wp2_with (first | (refine wpList_load_row' rfl 24 (.tmp 2) rfl _ rfl 24 _ (0, 0) _ g0 Try.underlying24 rfl hil ?_) | (refine wpList_store_row rfl 24 (.tmp 4) (.tmp 23) rfl _ _ rfl rfl 24 _ g2 hil (by simp [vcells_size, hl]) (vcells_one _) ?_; intro w3 hb3 hg4 _ hs3))
      exact bodyPost_ret (v := .agg (vcells (joinOf v u))) (results_cell_row rfl _ _ _ _ _ _ _ rfl hg4 Try.underlying24 rfl hil) rfl ⟨rfl, hb.trans (hb3.mono (by omega))⟩
end Go.Proofs.Ytlmligchjjgcmaa
