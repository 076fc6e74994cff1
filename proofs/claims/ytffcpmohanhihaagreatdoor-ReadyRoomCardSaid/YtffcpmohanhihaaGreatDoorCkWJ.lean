/-
  Vec.With. No condition beside 64 numbers in a vector.
-/
import Derived.Test.YtffcpmohanhihaaGreatDoorJ13
import Derived.Test.YtffcpmohanhihaaGreatDoorJ2
namespace Go.Proofs.YtffcpmohanhihaaGreatDoor
open Go.RowKit Go.Sort
set_option linter.unusedVariables false
set_option linter.unusedSimpArgs false
def withOf (v : List Int) (r n : Int) : List Int × Bool := if goodB r n = true ∧ nextOf v r = (r, n) then ((cleanOf v).set (r.toNat - 1) n, true) else (v, false)
set_option maxRecDepth 100000 in
set_option maxHeartbeats 800000 in
theorem With_any (v : List Int) (r n : Int) (w : World) (hv : v.length = 64) :
    Calls Tryz.prog 45 #[.agg (vcells v), .agg #[.int .i64 r, .int .i64 n]] w fun e w' => e = .returned (.tuple #[.agg (vcells (withOf v r n).1), .bool (withOf v r n).2]) ∧ Below w.heap.size w w' := by
  have hi := vec_info v hv
  have hs := vcells_size v
  rw [hv] at hs
  cases hg : goodB r n
  · have hw : Hid (withOf v r n = (v, false)) := by unfold Hid withOf; rw [if_neg (by simp [hg])]
    go_enter Tryz.func45, Tryz.ntmps45
    go_wp2
    have hB : Below w.heap.size w (((w.alloc (Obj.cells (vcells v) 33)).alloc (Obj.cells #[Value.int .i64 r, Value.int .i64 n] 31)).alloc (.cells (vcells (List.replicate 64 0)) 33)) := by
      (repeat (first | exact Below.refl _ _ | assumption | (refine Below.setCell ?_ (by first | (simp; done) | omega | (simp; omega)) _) | (refine Below.alloc ?_ (by first | (simp; done) | omega | (simp; omega)) _) | fail))
    have c0 : (((w.alloc (Obj.cells (vcells v) 33)).alloc (Obj.cells #[Value.int .i64 r, Value.int .i64 n] 31)).alloc (.cells (vcells (List.replicate 64 0)) 33)).cell? ⟨w.heap.size + 1, 0, none⟩ = some (.int .i64 r) := by simp [go_sem]
    have c1 : (((w.alloc (Obj.cells (vcells v) 33)).alloc (Obj.cells #[Value.int .i64 r, Value.int .i64 n] 31)).alloc (.cells (vcells (List.replicate 64 0)) 33)).cell? ⟨w.heap.size + 1, 1, none⟩ = some (.int .i64 n) := by simp [go_sem]
    have g0 := heap3_0 w (Obj.cells (vcells v) 33) (Obj.cells #[Value.int .i64 r, Value.int .i64 n] 31) (.cells (vcells (List.replicate 64 0)) 33)
    have g2 := heap3_2 w (Obj.cells (vcells v) 33) (Obj.cells #[Value.int .i64 r, Value.int .i64 n] 31) (.cells (vcells (List.replicate 64 0)) 33)
    change Code.wp _ _ _ _ (((w.alloc (Obj.cells (vcells v) 33)).alloc (Obj.cells #[Value.int .i64 r, Value.int .i64 n] 31)).alloc (.cells (vcells (List.replicate 64 0)) 33))
    generalize (((w.alloc (Obj.cells (vcells v) 33)).alloc (Obj.cells #[Value.int .i64 r, Value.int .i64 n] 31)).alloc (.cells (vcells (List.replicate 64 0)) 33)) = W at *
    have k0 := cell_regrown c0
    have k1 := cell_regrown c1
    have cG := grown_calls (w := W) (fun W' _ => Good_is hg W')
    have hsW : w.heap.size + 2 < W.heap.size := (Array.getElem?_eq_some_iff.1 g2).1
    refine wp_region_quiet_below (by kernel_rfl) (by kernel_rfl) ?_
    repeat (quiet_step (with_reducible exact cG _ _))
    refine wpQuiet_nil ?_; rintro wq ⟨⟨dq, osq⟩, rfl⟩; have hbq := below_regrown W dq osq; generalize Go.Sort.grow (redrawn W dq) osq = wq at *
    have q0 := (hbq.block _ (by omega)).trans g0
    have q2 := (hbq.block _ (by omega)).trans g2
    clear cG k0 k1
    go_wp2_with (first | (refine wpList_load_row' rfl 33 (.tmp 2) rfl _ rfl 33 _ (0, 0) _ q0 Tryz.underlying33 rfl hi ?_) | (refine wpList_store_row rfl 33 (.tmp 4) (.tmp 17) rfl _ _ rfl rfl 33 _ q2 hi (by simp [vcells_size, hv]) (vcells_one _) ?_; intro w3 hb3 hg4 _ hs3))
    exact bodyPost_ret (v := .tuple #[.agg (vcells v), .bool false]) (results_row_tmp rfl _ _ _ _ _ _ _ _ rfl rfl hg4 Tryz.underlying33 rfl hi) rfl ⟨by rw [hw.out], (below_then hB hB.size hbq).trans (hb3.mono (by omega))⟩
  · have hr := (goodB_iff.1 hg).1
    have hR := Lib.hid hr; clear hr
    have hN0 := fun W' => Next_any v r W' hv
    by_cases hnx : nextOf v r = (r, n)
    · have hw : Hid (withOf v r n = ((cleanOf v).set (r.toNat - 1) n, true)) := by unfold Hid withOf; rw [if_pos ⟨hg, hnx⟩]
      have hkn : Hid (know v r + 1 = n) := by
        unfold Hid
        unfold nextOf at hnx
        split at hnx
        · simpa using hnx
        · have := (goodB_iff.1 hg).1; simp at hnx; omega
      have hN : ∀ W', Calls Tryz.prog 75 #[.agg (vcells v), .int .i64 r] W' fun e w' => e = .returned (.agg #[.int .i64 r, .int .i64 n]) ∧ Below W'.heap.size W' w' := fun W' => (hN0 W').mono fun e w' h => by rw [hnx] at h; exact h
      have HN := Lib.hid hN; clear hN0 hnx hN
      go_enter Tryz.func45, Tryz.ntmps45
      go_wp2
      have hB : Below w.heap.size w (((w.alloc (Obj.cells (vcells v) 33)).alloc (Obj.cells #[Value.int .i64 r, Value.int .i64 n] 31)).alloc (.cells (vcells (List.replicate 64 0)) 33)) := by
        (repeat (first | exact Below.refl _ _ | assumption | (refine Below.setCell ?_ (by first | (simp; done) | omega | (simp; omega)) _) | (refine Below.alloc ?_ (by first | (simp; done) | omega | (simp; omega)) _) | fail))
      have c0 : (((w.alloc (Obj.cells (vcells v) 33)).alloc (Obj.cells #[Value.int .i64 r, Value.int .i64 n] 31)).alloc (.cells (vcells (List.replicate 64 0)) 33)).cell? ⟨w.heap.size + 1, 0, none⟩ = some (.int .i64 r) := by simp [go_sem]
      have c1 : (((w.alloc (Obj.cells (vcells v) 33)).alloc (Obj.cells #[Value.int .i64 r, Value.int .i64 n] 31)).alloc (.cells (vcells (List.replicate 64 0)) 33)).cell? ⟨w.heap.size + 1, 1, none⟩ = some (.int .i64 n) := by simp [go_sem]
      have g0 := heap3_0 w (Obj.cells (vcells v) 33) (Obj.cells #[Value.int .i64 r, Value.int .i64 n] 31) (.cells (vcells (List.replicate 64 0)) 33)
      have g2 := heap3_2 w (Obj.cells (vcells v) 33) (Obj.cells #[Value.int .i64 r, Value.int .i64 n] 31) (.cells (vcells (List.replicate 64 0)) 33)
      change Code.wp _ _ _ _ (((w.alloc (Obj.cells (vcells v) 33)).alloc (Obj.cells #[Value.int .i64 r, Value.int .i64 n] 31)).alloc (.cells (vcells (List.replicate 64 0)) 33))
      generalize (((w.alloc (Obj.cells (vcells v) 33)).alloc (Obj.cells #[Value.int .i64 r, Value.int .i64 n] 31)).alloc (.cells (vcells (List.replicate 64 0)) 33)) = W at *
      have k0 := cell_regrown c0
      have k1 := cell_regrown c1
      have cG := grown_calls (w := W) (fun W' _ => Good_is hg W')
      have hsW : w.heap.size + 2 < W.heap.size := (Array.getElem?_eq_some_iff.1 g2).1
      have cN := grown_calls (w := W) (fun W' _ => HN.out W')
      refine wp_region_quiet_below (by kernel_rfl) (by kernel_rfl) ?_
      repeat (first | (refine BigFrame.wpQuiet_want rfl (fun K hK => ?_); refine quiet_load_row 33 (.tmp 2) rfl _ rfl 33 _ (0, 0) _ (row_regrown g0) Tryz.underlying33 rfl hi ?_; refine hK _ ?_; clear hK K) | (quiet_step (first | with_reducible exact cG _ _ | with_reducible exact cN _ _)))
      refine wpQuiet_nil ?_; rintro wq ⟨⟨dq, osq⟩, rfl⟩; have hbq := below_regrown W dq osq; generalize Go.Sort.grow (redrawn W dq) osq = wq at *
      have q0 := (hbq.block _ (by omega)).trans g0
      have q2 := (hbq.block _ (by omega)).trans g2
      have qB := below_then hB hB.size hbq
      have qc0 : wq.cell? ⟨w.heap.size + 1, 0, none⟩ = some (.int .i64 r) := by rw [hbq.cell (p := ⟨w.heap.size + 1, 0, none⟩) (show w.heap.size + 1 < W.heap.size by omega)]; exact c0
      have hsq := hbq.size
      clear cG k0 k1 cN c0 c1 g0 g2 hB hbq
      go_wp2_with (refine wpList_load_row' rfl 33 (.tmp 2) rfl _ rfl 33 _ (0, 0) _ q0 Tryz.underlying33 rfl hi ?_)
      refine (clean_any _ _ hv).mono ?_
      rintro e w1 ⟨rfl, hb1⟩
      have hl0 := (cleanOf_length v).trans hv
      have hi0 := vec_info _ hl0
      have hs1 := hb1.size
      have r0 := (hb1.block _ (show w.heap.size < wq.heap.size by omega)).trans q0
      have r2 := (hb1.block _ (show w.heap.size + 2 < wq.heap.size by omega)).trans q2
      have rc : w1.cell? ⟨w.heap.size + 1, 0, none⟩ = some (.int .i64 r) := by rw [hb1.cell (p := ⟨w.heap.size + 1, 0, none⟩) (show w.heap.size + 1 < wq.heap.size by omega)]; exact qc0
      have rB := below_then qB qB.size hb1
      clear q0 q2 qc0 qB hb1
      obtain ⟨hr1, hr2⟩ := hR.out
      have hkr := know_range v r
      have hat : vat (cleanOf v) (r.toNat - 1) = know v r := by rw [cleanOf_at v _ (by omega)]; rfl
      have key : ∀ w2 : World, w2.heap[w.heap.size]? = some (.cells (vcells (cleanOf v)) 33 (0, 0)) → (∀ k, k ≠ w.heap.size → w2.heap[k]? = w1.heap[k]?) →
          w2.heap[w.heap.size + 2]? = some (.cells (vcells (List.replicate 64 0)) 33 (0, 0)) ∧ w2.cell? ⟨w.heap.size + 1, 0, none⟩ = some (.int .i64 r) ∧ w2.frozen? ⟨w.heap.size, r.toNat - 1, none⟩ = false ∧ w2.cell? ⟨w.heap.size, r.toNat - 1, none⟩ = some (.int .i64 (know v r)) := by
        intro w2 g3 ho2
        refine ⟨(ho2 (w.heap.size + 2) (by omega)).trans r2, ?_, frozen_of_row w2 _ _ _ _ g3, ?_⟩
        · rw [World.cell?_of_block (w := w1) (ho2 (w.heap.size + 1) (by omega))]; exact rc
        · rw [cell_of_row w2 _ _ _ _ _ g3, ← hat]; exact vcells_get _ _ (by omega)
      have Key := Lib.hid key; clear key
      have hl5 : ((cleanOf v).set (r.toNat - 1) (know v r + 1)).length = 64 := by rw [List.length_set]; exact hl0
      have hi5 := vec_info _ hl5
      have one5 := vcells_one ((cleanOf v).set (r.toNat - 1) (know v r + 1))
      have e5 := vcells_set (cleanOf v) (r.toNat - 1) (know v r + 1)
      have hsz5 : (vcells (List.replicate 64 0)).size = (vcells ((cleanOf v).set (r.toNat - 1) (know v r + 1))).size := by rw [vcells_size, vcells_size, hl5]; rfl
      rw [← e5] at hi5 one5 hsz5
      have he5 := Lib.hid e5
      clear e5 hl5
      go_wp2_with (first | (refine wpList_store_row rfl 33 (.tmp 2) (.tmp 19) rfl _ _ rfl rfl 33 _ r0 hi0 (by simp [vcells_size, hv, hl0]) (vcells_one _) ?_; intro w2 hb2 g3 ho2 hs2; obtain ⟨s2, sc, sf, sv⟩ := Key.out w2 g3 ho2) | (refine wpList_load_row' rfl 33 (.tmp 2) rfl _ rfl 33 _ (0, 0) _ (heap_setCell_same _ _ _ _ _ _ g3) Tryz.underlying33 rfl hi5 ?_) | (refine wpList_store_row rfl 33 (.tmp 4) (.tmp 27) rfl _ _ rfl rfl 33 _ ((heap_setCell_other _ _ _ _ (by simp; omega)).trans s2) hi5 hsz5 one5 ?_; intro w3 hb3 g5 ho3 hs3))
      refine bodyPost_ret (v := .tuple #[.agg ((vcells (cleanOf v)).setIfInBounds (r.toNat - 1) (.int .i64 (know v r + 1))), .bool true]) (results_row_tmp rfl _ _ _ _ _ _ _ _ rfl rfl g5 Tryz.underlying33 rfl hi5) rfl ⟨by rw [hw.out, he5.out, hkn.out], ?_⟩
      exact (((rB.trans hb2).setCell (by simp) _)).trans (hb3.mono (by omega))
    · have hw : Hid (withOf v r n = (v, false)) := by unfold Hid withOf; rw [if_neg (fun h => hnx h.2)]
      have HN := Lib.hid hN0
      rcases Classical.em ((nextOf v r).1 = r) with h1 | h1
      · have h2 : ((nextOf v r).2 == n) = false := by
          simp only [beq_eq_false_iff_ne]; exact fun e => hnx (Prod.ext h1 e)
        have h3 : ((nextOf v r).1 == r) = true := by simpa using h1
        clear hN0 hnx h1
        go_enter Tryz.func45, Tryz.ntmps45
        go_wp2
        have hB : Below w.heap.size w (((w.alloc (Obj.cells (vcells v) 33)).alloc (Obj.cells #[Value.int .i64 r, Value.int .i64 n] 31)).alloc (.cells (vcells (List.replicate 64 0)) 33)) := by
          (repeat (first | exact Below.refl _ _ | assumption | (refine Below.setCell ?_ (by first | (simp; done) | omega | (simp; omega)) _) | (refine Below.alloc ?_ (by first | (simp; done) | omega | (simp; omega)) _) | fail))
        have c0 : (((w.alloc (Obj.cells (vcells v) 33)).alloc (Obj.cells #[Value.int .i64 r, Value.int .i64 n] 31)).alloc (.cells (vcells (List.replicate 64 0)) 33)).cell? ⟨w.heap.size + 1, 0, none⟩ = some (.int .i64 r) := by simp [go_sem]
        have c1 : (((w.alloc (Obj.cells (vcells v) 33)).alloc (Obj.cells #[Value.int .i64 r, Value.int .i64 n] 31)).alloc (.cells (vcells (List.replicate 64 0)) 33)).cell? ⟨w.heap.size + 1, 1, none⟩ = some (.int .i64 n) := by simp [go_sem]
        have g0 := heap3_0 w (Obj.cells (vcells v) 33) (Obj.cells #[Value.int .i64 r, Value.int .i64 n] 31) (.cells (vcells (List.replicate 64 0)) 33)
        have g2 := heap3_2 w (Obj.cells (vcells v) 33) (Obj.cells #[Value.int .i64 r, Value.int .i64 n] 31) (.cells (vcells (List.replicate 64 0)) 33)
        change Code.wp _ _ _ _ (((w.alloc (Obj.cells (vcells v) 33)).alloc (Obj.cells #[Value.int .i64 r, Value.int .i64 n] 31)).alloc (.cells (vcells (List.replicate 64 0)) 33))
        generalize (((w.alloc (Obj.cells (vcells v) 33)).alloc (Obj.cells #[Value.int .i64 r, Value.int .i64 n] 31)).alloc (.cells (vcells (List.replicate 64 0)) 33)) = W at *
        have k0 := cell_regrown c0
        have k1 := cell_regrown c1
        have cG := grown_calls (w := W) (fun W' _ => Good_is hg W')
        have hsW : w.heap.size + 2 < W.heap.size := (Array.getElem?_eq_some_iff.1 g2).1
        have cN := grown_calls (w := W) (fun W' _ => HN.out W')
        refine wp_region_quiet_below (by kernel_rfl) (by kernel_rfl) ?_
        repeat (first | (refine BigFrame.wpQuiet_want rfl (fun K hK => ?_); refine quiet_load_row 33 (.tmp 2) rfl _ rfl 33 _ (0, 0) _ (row_regrown g0) Tryz.underlying33 rfl hi ?_; refine hK _ ?_; clear hK K) | (quiet_step (first | with_reducible exact cG _ _ | with_reducible exact cN _ _)))
        clear cN h2 h3
        refine wpQuiet_nil ?_; rintro wq ⟨⟨dq, osq⟩, rfl⟩; have hbq := below_regrown W dq osq; generalize Go.Sort.grow (redrawn W dq) osq = wq at *
        have q0 := (hbq.block _ (by omega)).trans g0
        have q2 := (hbq.block _ (by omega)).trans g2
        clear cG k0 k1
        go_wp2_with (first | (refine wpList_load_row' rfl 33 (.tmp 2) rfl _ rfl 33 _ (0, 0) _ q0 Tryz.underlying33 rfl hi ?_) | (refine wpList_store_row rfl 33 (.tmp 4) (.tmp 17) rfl _ _ rfl rfl 33 _ q2 hi (by simp [vcells_size, hv]) (vcells_one _) ?_; intro w3 hb3 hg4 _ hs3))
        exact bodyPost_ret (v := .tuple #[.agg (vcells v), .bool false]) (results_row_tmp rfl _ _ _ _ _ _ _ _ rfl rfl hg4 Tryz.underlying33 rfl hi) rfl ⟨by rw [hw.out], (below_then hB hB.size hbq).trans (hb3.mono (by omega))⟩
      · have h3 : ((nextOf v r).1 == r) = false := by simpa using h1
        clear hN0 hnx h1
        go_enter Tryz.func45, Tryz.ntmps45
        go_wp2
        have hB : Below w.heap.size w (((w.alloc (Obj.cells (vcells v) 33)).alloc (Obj.cells #[Value.int .i64 r, Value.int .i64 n] 31)).alloc (.cells (vcells (List.replicate 64 0)) 33)) := by
          (repeat (first | exact Below.refl _ _ | assumption | (refine Below.setCell ?_ (by first | (simp; done) | omega | (simp; omega)) _) | (refine Below.alloc ?_ (by first | (simp; done) | omega | (simp; omega)) _) | fail))
        have c0 : (((w.alloc (Obj.cells (vcells v) 33)).alloc (Obj.cells #[Value.int .i64 r, Value.int .i64 n] 31)).alloc (.cells (vcells (List.replicate 64 0)) 33)).cell? ⟨w.heap.size + 1, 0, none⟩ = some (.int .i64 r) := by simp [go_sem]
        have c1 : (((w.alloc (Obj.cells (vcells v) 33)).alloc (Obj.cells #[Value.int .i64 r, Value.int .i64 n] 31)).alloc (.cells (vcells (List.replicate 64 0)) 33)).cell? ⟨w.heap.size + 1, 1, none⟩ = some (.int .i64 n) := by simp [go_sem]
        have g0 := heap3_0 w (Obj.cells (vcells v) 33) (Obj.cells #[Value.int .i64 r, Value.int .i64 n] 31) (.cells (vcells (List.replicate 64 0)) 33)
        have g2 := heap3_2 w (Obj.cells (vcells v) 33) (Obj.cells #[Value.int .i64 r, Value.int .i64 n] 31) (.cells (vcells (List.replicate 64 0)) 33)
        change Code.wp _ _ _ _ (((w.alloc (Obj.cells (vcells v) 33)).alloc (Obj.cells #[Value.int .i64 r, Value.int .i64 n] 31)).alloc (.cells (vcells (List.replicate 64 0)) 33))
        generalize (((w.alloc (Obj.cells (vcells v) 33)).alloc (Obj.cells #[Value.int .i64 r, Value.int .i64 n] 31)).alloc (.cells (vcells (List.replicate 64 0)) 33)) = W at *
        have k0 := cell_regrown c0
        have k1 := cell_regrown c1
        have cG := grown_calls (w := W) (fun W' _ => Good_is hg W')
        have hsW : w.heap.size + 2 < W.heap.size := (Array.getElem?_eq_some_iff.1 g2).1
        have cN := grown_calls (w := W) (fun W' _ => HN.out W')
        refine wp_region_quiet_below (by kernel_rfl) (by kernel_rfl) ?_
        repeat (first | (refine BigFrame.wpQuiet_want rfl (fun K hK => ?_); refine quiet_load_row 33 (.tmp 2) rfl _ rfl 33 _ (0, 0) _ (row_regrown g0) Tryz.underlying33 rfl hi ?_; refine hK _ ?_; clear hK K) | (quiet_step (first | with_reducible exact cG _ _ | with_reducible exact cN _ _)))
        clear cN h3
        refine wpQuiet_nil ?_; rintro wq ⟨⟨dq, osq⟩, rfl⟩; have hbq := below_regrown W dq osq; generalize Go.Sort.grow (redrawn W dq) osq = wq at *
        have q0 := (hbq.block _ (by omega)).trans g0
        have q2 := (hbq.block _ (by omega)).trans g2
        clear cG k0 k1
        go_wp2_with (first | (refine wpList_load_row' rfl 33 (.tmp 2) rfl _ rfl 33 _ (0, 0) _ q0 Tryz.underlying33 rfl hi ?_) | (refine wpList_store_row rfl 33 (.tmp 4) (.tmp 17) rfl _ _ rfl rfl 33 _ q2 hi (by simp [vcells_size, hv]) (vcells_one _) ?_; intro w3 hb3 hg4 _ hs3))
        exact bodyPost_ret (v := .tuple #[.agg (vcells v), .bool false]) (results_row_tmp rfl _ _ _ _ _ _ _ _ rfl rfl hg4 Tryz.underlying33 rfl hi) rfl ⟨by rw [hw.out], (below_then hB hB.size hbq).trans (hb3.mono (by omega))⟩
end Go.Proofs.YtffcpmohanhihaaGreatDoor
