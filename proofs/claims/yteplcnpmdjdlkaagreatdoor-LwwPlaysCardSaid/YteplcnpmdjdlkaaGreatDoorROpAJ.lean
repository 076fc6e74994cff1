/-
  The reference's Op, operations of kind 1. Condition: what zero, Value tell is known.
-/
import Derived.Test.YteplcnpmdjdlkaaGreatDoorJ25
import Derived.Test.YteplcnpmdjdlkaaGreatDoorJ7
namespace Go.Proofs.YteplcnpmdjdlkaaGreatDoor
open Go.RowKit
set_option linter.unusedVariables false
set_option linter.unusedSimpArgs false
set_option linter.unusedSectionVars false
section
variable (o : OpV) (zb vb : Bool) (w : World) (ho : o.seen.length = 64)
  (HZ : Hid (∀ W, Below w.heap.size w W → Calls Tryz.prog 29 #[.agg o.vc] W fun e w' => e = .returned (.bool zb) ∧ Below W.heap.size W w'))
  (HV : Hid (∀ W, Below w.heap.size w W → Calls Tryz.prog 30 #[.agg o.vc] W fun e w' => e = .returned (.bool vb) ∧ Below W.heap.size W w'))
include ho HZ HV
set_option maxRecDepth 100000 in
set_option maxHeartbeats 16000000 in
theorem rop_kind1 (sb : Bool) (HS : ∀ W, Calls Tryz.prog 20 #[.string o.key] W fun e w' => e = .returned (.bool sb) ∧ Below W.heap.size W w') (hg : goodB o.R o.N = true) (ht : 1 ≤ o.T) (hk : o.K = 1) (hm : 0 ≤ o.M) (hm4 : o.M ≤ 2) : Calls Tryz.prog 14 #[opv o] w fun e w' => e = .returned (.bool (ropB o sb zb vb)) ∧ Below w.heap.size w w' := by
  have hh : Hid (ropB o sb zb vb = (allTo (inB o) 64 && (vat o.seen (o.R.toNat - 1) == o.N - 1) && (objB o || hasB o.seen o.OR o.ON) && tailB o sb zb vb)) := by
    have : headB o = true := by unfold headB; simp [hg]; omega
    unfold Hid ropB; rw [this]; rfl
  obtain ⟨⟨hR1, hR2⟩, hN1, hN2⟩ := goodB_iff.1 hg
  have hS : Sees w (w.alloc (Obj.cells o.c 36)) [(w.heap.size, Obj.cells o.c 36)] := (Sees.start w).alloc _
  have a0 := OpV.g0 (o := o)
  have a1 := OpV.g1 (o := o)
  have a2 := OpV.g2 (o := o)
  have a70 := OpV.g70 ho
  have a73 := OpV.g73 ho
  have a67 : o.c[67]? = some (.int .i64 1) := (OpV.g67 ho).trans (congrArg (fun x => some (Value.int .i64 x)) hk)
  have HK := Lib.hid hk
  clear hk
  have ht2 : decide (o.T < 1) = false := by simp; omega
  have hm2 : decide (o.M < 0) = false := by simp; omega
  have hm3 : decide (2 < o.M) = false := by simp; omega
  have HT := Lib.hid HS
  clear HS
  go_enter Tryz.func14, Tryz.ntmps14
  go_wp2_with (first | go_skip | ((with_reducible refine gate_op (op := .load 27 (.tmp 4)) rfl ?_); refine load_part rfl 27 (.tmp 4) rfl _ 0 rfl _ _ (0, 0) _ _ hS.g0 OpV.pId Tryz.underlying27 rfl (id_info _ _) ?_) | (go_at_call 27; with_reducible (refine (r20Good_is hg _).mono ?_); rintro e wn ⟨rfl, hbn⟩; have hS1 := hS.step hbn; clear hS hbn; have hS := hS1; clear hS1; (try clear c0 c1 c2 c67 c70 c73 c74); have c0 := (cell_of_row _ _ _ _ _ _ hS.g0).trans a0; have c1 := (cell_of_row _ _ _ _ _ _ hS.g0).trans a1; have c2 := (cell_of_row _ _ _ _ _ _ hS.g0).trans (OpV.g2 (o := o)); have c67 := (cell_of_row _ _ _ _ _ _ hS.g0).trans a67; have c70 := (cell_of_row _ _ _ _ _ _ hS.g0).trans (OpV.g70 ho); have c73 := (cell_of_row _ _ _ _ _ _ hS.g0).trans (OpV.g73 ho); have c74 := (cell_of_row _ _ _ _ _ _ hS.g0).trans (OpV.g74 ho)))
  go_loop [3] (fun iv => ∃ k : Nat, 1 ≤ k ∧ k ≤ 65 ∧ iv = .int .i64 (k : Int) ∧ Hid (allTo (inB o) (k - 1) = true)) (fun iv => 65 - (intOf iv).toNat)
  case atStart => exact ⟨1, by omega, by omega, rfl, rfl⟩
  case round =>
    obtain ⟨k, hk1, hk, rfl, H⟩ := hrel
    by_cases hlt : k ≤ 64
    · have ck : wn.cell? ⟨w.heap.size, 3 + (k - 1), none⟩ = some (.int .i64 (vat o.seen (k - 1))) := (cell_of_row _ _ _ _ _ _ hS.g0).trans (OpV.gs ho (k - 1) (by omega))
      have hin : Hid (inB o (k - 1) = (decide (0 ≤ vat o.seen (k - 1)) && decide (vat o.seen (k - 1) ≤ 60))) := rfl
      have HN := Lib.hid (fun h => allTo_no (p := inB o) (k := k - 1) (n := 64) (by omega) h)
      have hy : inB o (k - 1) = true → allTo (inB o) (k + 1 - 1) = true := fun h => by
        rw [show k + 1 - 1 = (k - 1) + 1 by omega, allTo, H.out, h]; rfl
      have HY := Lib.hid hy
      clear hy
      generalize vat o.seen (k - 1) = x at *
      by_cases h0 : x < 0
      · have hf : Hid (ropB o sb zb vb = false) := by unfold Hid; rw [hh.out, HN.out (by rw [hin.out, decide_eq_false (show ¬ 0 ≤ x by omega)]; rfl)]; rfl
        clear hin HN HY
        go_wp2_with go_skip
        go_ret
        exact ⟨ret_bool hf.out.symm, hS.below⟩
      by_cases h6 : 60 < x
      · have hf : Hid (ropB o sb zb vb = false) := by unfold Hid; rw [hh.out, HN.out (by rw [hin.out, decide_eq_false (show ¬ x ≤ 60 by omega)]; simp)]; rfl
        have h0b : decide (x < 0) = false := by simp; omega
        clear hin HN HY
        go_wp2_with go_skip
        go_ret
        exact ⟨ret_bool hf.out.symm, hS.below⟩
      · have hs : Hid (allTo (inB o) (k + 1 - 1) = true) := HY.out (by rw [hin.out]; simp; omega)
        have h0b : decide (x < 0) = false := by simp; omega
        have h6b : decide (60 < x) = false := by simp; omega
        clear hin HN HY
        go_wp2_with go_skip
        go_round
        case rel => exact ⟨k + 1, by omega, by omega, by go_num, hs⟩
        case measure => simp [intOf]; omega
    · obtain rfl : k = 65 := by omega
      have hh : Hid (ropB o sb zb vb = ((vat o.seen (o.R.toNat - 1) == o.N - 1) && (objB o || hasB o.seen o.OR o.ON) && tailB o sb zb vb)) := by
        have : allTo (inB o) 64 = true := H.out
        unfold Hid; rw [hh.out, this]; rfl
      clear H
      have cR : wn.cell? ⟨w.heap.size, 3 + (o.R.toNat - 1), none⟩ = some (.int .i64 (vat o.seen (o.R.toNat - 1))) := (cell_of_row _ _ _ _ _ _ hS.g0).trans (OpV.gs ho (o.R.toNat - 1) (by omega))
      go_wp2_with go_skip
      generalize vat o.seen (o.R.toNat - 1) = x at *
      (try clear c0 c1 c2 c67 c70 c73 c74)
      have c0 := (cell_of_row _ _ _ _ _ _ hS.g0).trans a0; have c1 := (cell_of_row _ _ _ _ _ _ hS.g0).trans a1; have c2 := (cell_of_row _ _ _ _ _ _ hS.g0).trans (OpV.g2 (o := o)); have c67 := (cell_of_row _ _ _ _ _ _ hS.g0).trans a67; have c70 := (cell_of_row _ _ _ _ _ _ hS.g0).trans (OpV.g70 ho); have c73 := (cell_of_row _ _ _ _ _ _ hS.g0).trans (OpV.g73 ho); have c74 := (cell_of_row _ _ _ _ _ _ hS.g0).trans (OpV.g74 ho)
      have hwR : IntKind.i64.wrap (o.R - 1) = o.R - 1 := IntWalk.i64_in _ (by omega)
      have hwN : IntKind.i64.wrap (o.N - 1) = o.N - 1 := IntWalk.i64_in _ (by omega)
      have xR := fun W => run_index_arr (P := Tryz.prog) 29 2 Tryz.underlying29 (by kernel_rfl) (b := w.heap.size) (i0 := 3) o.R hR1 hR2 W
      have hO := fun W => r20Has_any o.seen o.OR o.ON W ho
      have HO := Lib.hid hO
      cases hx : (x == o.N - 1)
      case' false =>
        have hxb : (x != o.N - 1) = true := congrArg (fun b => !b) hx
        have hf : Hid (ropB o sb zb vb = false) := by unfold Hid; rw [hh.out, hx]; rfl
      case' true =>
        have hxb : (x != o.N - 1) = false := congrArg (fun b => !b) hx
        have hh : Hid (ropB o sb zb vb = ((objB o || hasB o.seen o.OR o.ON) && tailB o sb zb vb)) := by unfold Hid; rw [hh.out, hx]; rfl
        clear hx
        cases hob : objB o
        case' true =>
          have hob1 : (o.OR == 0) = true := by unfold objB at hob; simp at hob; simp [hob]
          have hob2 : (o.ON == 0) = true := by unfold objB at hob; simp at hob; simp [hob]
          have hT : Hid (ropB o sb zb vb = tailB o sb zb vb) := by unfold Hid; rw [hh.out, hob]; rfl
          have HB := Lib.hid hob
          clear hob hO
        case' false =>
          have HB := Lib.hid hob
          cases hob1 : (o.OR == 0)
          case' true => have hob2 : (o.ON == 0) = false := by have := HB.out; unfold objB at this; rw [hob1] at this; simpa using this
          all_goals (
            cases hhas : hasB o.seen o.OR o.ON
            case' false => have hf : Hid (ropB o sb zb vb = false) := by unfold Hid; rw [hh.out, HB.out, hhas]; rfl
            case' true => have hT : Hid (ropB o sb zb vb = tailB o sb zb vb) := by unfold Hid; rw [hh.out, HB.out, hhas]; rfl
            all_goals (
              rw [hhas] at hO
              have HO := Lib.hid hO
              clear hO hhas))
      all_goals (
        have k0 := cell_regrown c0
        have k1 := cell_regrown c1
        have kR := cell_regrown cR
        have hOq := Lib.hid (cells_regrown (w := wn) (b := w.heap.size) (i := 68) (cs := #[.int .i64 o.OR, .int .i64 o.ON]) (fun j v hv => (cell_of_row _ _ _ _ _ _ hS.g0).trans (OpV.pObj ho j v hv)))
        have hSq := Lib.hid (cells_regrown (w := wn) (b := w.heap.size) (i := 3) (cs := vcells o.seen) (fun j v hv => (cell_of_row _ _ _ _ _ _ hS.g0).trans (OpV.pSeen ho j v hv)))
        have cH := grown_calls (w := wn) (fun W _ => HO.out W)
        refine wp_region_quiet_below (by kernel_rfl) (by kernel_rfl) ?_
        repeat (first | go_big_quiet_skip | (refine BigFrame.wpQuiet_want rfl (fun K hK => ?_); refine quiet_index 29 (.tmp 55) (.tmp 54) rfl _ (fun W _ => xR W) ?_; refine hK _ ?_; clear hK K) | (refine BigFrame.wpQuiet_want rfl (fun K hK => ?_); refine quiet_load_cells 27 (.tmp 64) rfl _ _ rfl _ _ hOq.out Tryz.underlying27 rfl (id_info _ _) ?_; refine hK _ ?_; clear hK K) | (refine BigFrame.wpQuiet_want rfl (fun K hK => ?_); refine quiet_load_cells 27 (.tmp 71) rfl _ _ rfl _ _ hOq.out Tryz.underlying27 rfl (id_info _ _) ?_; refine hK _ ?_; clear hK K) | (refine BigFrame.wpQuiet_want rfl (fun K hK => ?_); refine quiet_load_cells 29 (.tmp 69) rfl _ _ rfl _ _ hSq.out Tryz.underlying29 rfl (seen_info _ ho) ?_; refine hK _ ?_; clear hK K) | (quiet_step (with_reducible exact cH _ _)))
        refine wpQuiet_nil ?_; rintro wq ⟨⟨dq, osq⟩, rfl⟩; have hbq := below_regrown wn dq osq; generalize Go.Sort.grow (redrawn wn dq) osq = wq at *
        have hS1 := hS.step hbq
        clear hS hbq k0 k1 kR hOq hSq cH c0 c1 c2 c67 c70 c73 c74 cR
        have hS := hS1
        clear hS1
        have c0 := (cell_of_row _ _ _ _ _ _ hS.g0).trans a0; have c1 := (cell_of_row _ _ _ _ _ _ hS.g0).trans a1; have c2 := (cell_of_row _ _ _ _ _ _ hS.g0).trans (OpV.g2 (o := o)); have c67 := (cell_of_row _ _ _ _ _ _ hS.g0).trans a67; have c70 := (cell_of_row _ _ _ _ _ _ hS.g0).trans (OpV.g70 ho); have c73 := (cell_of_row _ _ _ _ _ _ hS.g0).trans (OpV.g73 ho); have c74 := (cell_of_row _ _ _ _ _ _ hS.g0).trans (OpV.g74 ho)
        skip)
      all_goals try (
        have hgo := hT.out
        clear hgo
        cases sb
        case' false =>
          have hf := Lib.hid (hT.out.trans (show _ = false by unfold tailB; simp [HK.out, atB]))
        case' true =>
          cases hA1 : (o.AR == 0)
          case' false =>
            have hf := Lib.hid (hT.out.trans (show _ = false by unfold tailB; simp [HK.out, atB, hA1]))
          case' true =>
            cases hA2 : (o.AN == 0)
            case' false =>
              have hf := Lib.hid (hT.out.trans (show _ = false by unfold tailB; simp [HK.out, atB, hA1, hA2]))
            case' true =>
              cases hM : (o.M == 0)
              case' false =>
                have hMb : (o.M != 0) = true := congrArg (fun b => !b) hM
                have hf := Lib.hid (hT.out.trans (show _ = zb by unfold tailB; simp [HK.out, atB, hA1, hA2, hM]))
              case' true =>
                have hMb : (o.M != 0) = false := congrArg (fun b => !b) hM
                cases vb
                case' false =>
                  have hf := Lib.hid (hT.out.trans (show _ = false by unfold tailB; simp [HK.out, atB, hA1, hA2, hM]))
                case' true =>
                  cases hV : (o.VK != 5)
                  case' false =>
                    have hf := Lib.hid (hT.out.trans (show _ = false by unfold tailB; simp [HK.out, atB, hA1, hA2, hM, hV]))
                  case' true =>
                    have hf := Lib.hid (hT.out.trans (show _ = (o.VK != 6) by unfold tailB; simp [HK.out, atB, hA1, hA2, hM, hV])))
      all_goals (
        go_wp2_with (first | go_skip | ((with_reducible refine gate_op (op := .load 27 (.tmp 85)) rfl ?_); refine load_part rfl 27 (.tmp 85) rfl _ 71 rfl _ _ (0, 0) _ _ hS.g0 (OpV.pAt ho) Tryz.underlying27 rfl (id_info _ _) ?_) | ((with_reducible refine gate_op (op := .load 27 (.tmp 94)) rfl ?_); refine load_part rfl 27 (.tmp 94) rfl _ 68 rfl _ _ (0, 0) _ _ hS.g0 (OpV.pObj ho) Tryz.underlying27 rfl (id_info _ _) ?_) | ((with_reducible refine gate_op (op := .load 27 (.tmp 100)) rfl ?_); refine load_part rfl 27 (.tmp 100) rfl _ 71 rfl _ _ (0, 0) _ _ hS.g0 (OpV.pAt ho) Tryz.underlying27 rfl (id_info _ _) ?_) | ((with_reducible refine gate_op (op := .load 27 (.tmp 111)) rfl ?_); refine load_part rfl 27 (.tmp 111) rfl _ 71 rfl _ _ (0, 0) _ _ hS.g0 (OpV.pAt ho) Tryz.underlying27 rfl (id_info _ _) ?_) | ((with_reducible refine gate_op (op := .load 27 (.tmp 118)) rfl ?_); refine load_part rfl 27 (.tmp 118) rfl _ 71 rfl _ _ (0, 0) _ _ hS.g0 (OpV.pAt ho) Tryz.underlying27 rfl (id_info _ _) ?_) | ((with_reducible refine gate_op (op := .load 29 (.tmp 116)) rfl ?_); refine load_part rfl 29 (.tmp 116) rfl _ 3 rfl _ _ (0, 0) _ _ hS.g0 (OpV.pSeen ho) Tryz.underlying29 rfl (seen_info _ ho) ?_) | ((with_reducible refine gate_op (op := .load 34 (.tmp 136)) rfl ?_); refine load_part rfl 34 (.tmp 136) rfl _ 74 rfl _ _ (0, 0) _ _ hS.g0 (OpV.pV ho) Tryz.underlying34 rfl (val_info _) ?_) | ((with_reducible refine gate_op (op := .load 34 (.tmp 143)) rfl ?_); refine load_part rfl 34 (.tmp 143) rfl _ 74 rfl _ _ (0, 0) _ _ hS.g0 (OpV.pV ho) Tryz.underlying34 rfl (val_info _) ?_) | ((with_reducible refine gate_op (op := .load 34 (.tmp 146)) rfl ?_); refine load_part rfl 34 (.tmp 146) rfl _ 74 rfl _ _ (0, 0) _ _ hS.g0 (OpV.pV ho) Tryz.underlying34 rfl (val_info _) ?_) | (go_at_call 20; with_reducible (refine (HT.out _).mono ?_); rintro e wn ⟨rfl, hbn⟩; have hS1 := hS.step hbn; clear hS hbn; have hS := hS1; clear hS1; (try clear c0 c1 c2 c67 c70 c73 c74); have c0 := (cell_of_row _ _ _ _ _ _ hS.g0).trans a0; have c1 := (cell_of_row _ _ _ _ _ _ hS.g0).trans a1; have c2 := (cell_of_row _ _ _ _ _ _ hS.g0).trans (OpV.g2 (o := o)); have c67 := (cell_of_row _ _ _ _ _ _ hS.g0).trans a67; have c70 := (cell_of_row _ _ _ _ _ _ hS.g0).trans (OpV.g70 ho); have c73 := (cell_of_row _ _ _ _ _ _ hS.g0).trans (OpV.g73 ho); have c74 := (cell_of_row _ _ _ _ _ _ hS.g0).trans (OpV.g74 ho)) | (go_at_call 28; with_reducible (refine (HA.out _).mono ?_); rintro e wn ⟨rfl, hbn⟩; have hS1 := hS.step hbn; clear hS hbn; have hS := hS1; clear hS1; (try clear c0 c1 c2 c67 c70 c73 c74); have c0 := (cell_of_row _ _ _ _ _ _ hS.g0).trans a0; have c1 := (cell_of_row _ _ _ _ _ _ hS.g0).trans a1; have c2 := (cell_of_row _ _ _ _ _ _ hS.g0).trans (OpV.g2 (o := o)); have c67 := (cell_of_row _ _ _ _ _ _ hS.g0).trans a67; have c70 := (cell_of_row _ _ _ _ _ _ hS.g0).trans (OpV.g70 ho); have c73 := (cell_of_row _ _ _ _ _ _ hS.g0).trans (OpV.g73 ho); have c74 := (cell_of_row _ _ _ _ _ _ hS.g0).trans (OpV.g74 ho)) | (go_at_call 29; with_reducible (refine (HZ.out _ hS.below).mono ?_); rintro e wn ⟨rfl, hbn⟩; have hS1 := hS.step hbn; clear hS hbn; have hS := hS1; clear hS1; (try clear c0 c1 c2 c67 c70 c73 c74); have c0 := (cell_of_row _ _ _ _ _ _ hS.g0).trans a0; have c1 := (cell_of_row _ _ _ _ _ _ hS.g0).trans a1; have c2 := (cell_of_row _ _ _ _ _ _ hS.g0).trans (OpV.g2 (o := o)); have c67 := (cell_of_row _ _ _ _ _ _ hS.g0).trans a67; have c70 := (cell_of_row _ _ _ _ _ _ hS.g0).trans (OpV.g70 ho); have c73 := (cell_of_row _ _ _ _ _ _ hS.g0).trans (OpV.g73 ho); have c74 := (cell_of_row _ _ _ _ _ _ hS.g0).trans (OpV.g74 ho)) | (go_at_call 30; with_reducible (refine (HV.out _ hS.below).mono ?_); rintro e wn ⟨rfl, hbn⟩; have hS1 := hS.step hbn; clear hS hbn; have hS := hS1; clear hS1; (try clear c0 c1 c2 c67 c70 c73 c74); have c0 := (cell_of_row _ _ _ _ _ _ hS.g0).trans a0; have c1 := (cell_of_row _ _ _ _ _ _ hS.g0).trans a1; have c2 := (cell_of_row _ _ _ _ _ _ hS.g0).trans (OpV.g2 (o := o)); have c67 := (cell_of_row _ _ _ _ _ _ hS.g0).trans a67; have c70 := (cell_of_row _ _ _ _ _ _ hS.g0).trans (OpV.g70 ho); have c73 := (cell_of_row _ _ _ _ _ _ hS.g0).trans (OpV.g73 ho); have c74 := (cell_of_row _ _ _ _ _ _ hS.g0).trans (OpV.g74 ho)))
        go_ret
        exact ⟨ret_bool hf.out.symm, hS.below⟩)
end
end Go.Proofs.YteplcnpmdjdlkaaGreatDoor
