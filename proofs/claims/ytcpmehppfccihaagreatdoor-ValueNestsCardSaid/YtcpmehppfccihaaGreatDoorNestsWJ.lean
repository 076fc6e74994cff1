/-
  ValueNests, walked: true for all numbers. Condition: the library's variables as it lays them.
-/
import Derived.Test.YtcpmehppfccihaaGreatDoorV4AJ
import Derived.Test.YtcpmehppfccihaaGreatDoorJ12
import Derived.Test.YtcpmehppfccihaaGreatDoorVKJ
import Derived.Test.YtcpmehppfccihaaGreatDoorOpenJ
namespace Go.Proofs.YtcpmehppfccihaaGreatDoor
open Go.RowKit
set_option linter.unusedVariables false
set_option linter.unusedSimpArgs false
set_option linter.unusedSectionVars false
/-- The cells of that many values, just made. -/
def vcellsN (n : Nat) : Array Value := madeCells VT.no.c (n * 5)
theorem vcellsN_at (n i : Nat) (hi : i < n) (j : Nat) (u : Value) (hu : VT.no.c[j]? = some u) : (vcellsN n)[i * 5 + j]? = some u := by
  have hj : j < 5 := (Array.getElem?_eq_some_iff.1 hu).1
  have hlt : i * 5 + j < n * 5 := by omega
  unfold vcellsN madeCells
  have h5 : VT.no.c.size = 5 := rfl
  simp only [Array.getElem?_map, Array.getElem?_range, hlt, if_true, Option.map_some, h5]
  have hm : (i * 5 + j) % 5 = j := by omega
  rw [hm, ← hu, getElem!_pos VT.no.c j (by rw [h5]; exact hj)]
  exact (Array.getElem?_eq_getElem (by rw [h5]; exact hj)).symm
theorem vmakeN (n : Nat) (hn : n ≤ 100000) (W : World) : (Instr.makeSlice 24 (.int .i64 n) (.int .i64 n)).run Tryz.prog W = .ok (.slice (some ⟨W.heap.size, 0, none⟩) n n) (W.alloc (.cells (vcellsN n) 27)) := by
  obtain ⟨i, hi, hz0⟩ := Option.map_eq_some_iff.1 (show (Tryz.prog.info? 27).map (fun i => (i.zero, i.size, i.bytes)) = some (some (.agg VT.no.c), 5, 80) by kernel_rfl)
  have hz : i.zero = some (.agg VT.no.c) ∧ i.size = 5 ∧ i.bytes = 80 := by
    injection hz0 with e1 e2
    injection e2 with e2 e3
    exact ⟨e1, e2, e3⟩
  have := run_make (P := Tryz.prog) W 24 27 i (.agg VT.no.c) Tryz.underlying24 hi hz.1 .i64 .i64 n n (by omega) (by omega) (by rw [hz.2.2]; omega) (by omega)
  rw [hz.2.1] at this
  simp only [Int.toNat_natCast] at this
  exact this
theorem build_l3 (b n : Nat) (W : World) : (Instr.build 27 #[(0, .int .i64 5), (3, .slice (some ⟨b, 0, none⟩) n n)]).run Tryz.prog W = .ok (.agg (wideT b n).c) W := by kernel_rfl
theorem row_v1 (t : VT) : ∀ i, i < 1 → ∀ (j : Nat) z, t.c[j]? = some z → t.c[i * 5 + j]? = some z := by
  intro i hi j z hz
  obtain rfl : i = 0 := by omega
  rw [Nat.zero_mul, Nat.zero_add]
  exact hz
theorem Boxes.name1 {w W : World} {b : Nat} {o : Obj} (h : Boxes w W [(b, o)]) : ∃ b', b' = b ∧ Boxes w W [(b', o)] := ⟨b, rfl, h⟩
section
variable (dp wd : Int) (w : World) (hw : Vars w)
include hw
set_option maxRecDepth 100000 in
set_option maxHeartbeats 1000000 in
theorem nests_out (hout : dp < 1 ∨ 40 < dp ∨ wd < 0 ∨ 4200 < wd) (d0 : -9223372036854775808 ≤ dp ∧ dp ≤ 9223372036854775807) (d1 : -9223372036854775808 ≤ wd ∧ wd ≤ 9223372036854775807) : Calls Tryz.prog 7 #[.int .i64 dp, .int .i64 wd] w fun e w' => e = .returned (.bool true) ∧ Below w.heap.size w w' := by
  have HV := Lib.hid hw
  clear hw
  have hS := Boxes.start w
  by_cases c1 : dp < 1
  · have g1 : decide (dp < 1) = true := decide_eq_true c1
    clear hout
    go_enter Tryz.func7, Tryz.ntmps7
    go_wp2_with (first | go_skip | (go_at_call 9; (with_reducible (refine (awake4_any _ (HV.out.step hS.below)).mono ?_)); rintro e wn ⟨rfl, hbn⟩; have hS1 := hS.step hbn; clear hS hbn; have hS := hS1; clear hS1))
    go_ret
    exact ⟨rfl, hS.below⟩
  · have g1 : decide (dp < 1) = false := decide_eq_false c1
    by_cases c2 : 40 < dp
    · have g2 : decide (40 < dp) = true := decide_eq_true c2
      clear hout
      go_enter Tryz.func7, Tryz.ntmps7
      go_wp2_with (first | go_skip | (go_at_call 9; (with_reducible (refine (awake4_any _ (HV.out.step hS.below)).mono ?_)); rintro e wn ⟨rfl, hbn⟩; have hS1 := hS.step hbn; clear hS hbn; have hS := hS1; clear hS1))
      go_ret
      exact ⟨rfl, hS.below⟩
    · have g2 : decide (40 < dp) = false := decide_eq_false c2
      by_cases c3 : wd < 0
      · have g3 : decide (wd < 0) = true := decide_eq_true c3
        clear hout
        go_enter Tryz.func7, Tryz.ntmps7
        go_wp2_with (first | go_skip | (go_at_call 9; (with_reducible (refine (awake4_any _ (HV.out.step hS.below)).mono ?_)); rintro e wn ⟨rfl, hbn⟩; have hS1 := hS.step hbn; clear hS hbn; have hS := hS1; clear hS1))
        go_ret
        exact ⟨rfl, hS.below⟩
      · have g3 : decide (wd < 0) = false := decide_eq_false c3
        have g4 : decide (4200 < wd) = true := decide_eq_true (by omega)
        clear hout
        go_enter Tryz.func7, Tryz.ntmps7
        go_wp2_with (first | go_skip | (go_at_call 9; (with_reducible (refine (awake4_any _ (HV.out.step hS.below)).mono ?_)); rintro e wn ⟨rfl, hbn⟩; have hS1 := hS.step hbn; clear hS hbn; have hS := hS1; clear hS1))
        go_ret
        exact ⟨rfl, hS.below⟩
set_option maxRecDepth 100000 in
set_option maxHeartbeats 2000000 in
theorem nests_in (D M : Nat) (h1 : 1 ≤ D) (h2 : D ≤ 40) (h3 : M ≤ 4200) (g m : Bool) (hg : decide ((D : Int) ≤ 32) = g) (hm : decide ((M : Int) < 4096) = m) : Calls Tryz.prog 7 #[.int .i64 (D : Int), .int .i64 (M : Int)] w fun e w' => e = .returned (.bool true) ∧ Below w.heap.size w w' := by
  have HV := Lib.hid hw
  clear hw
  have HG := Lib.hid hg
  have HM := Lib.hid hm
  clear hg hm
  have b0 := Lib.hid build_no
  have bl := Lib.hid build_l3
  have s1 := Lib.hid slice_v1
  have mk := Lib.hid (vmakeN M (by omega))
  have c1 : decide ((D : Int) < 1) = false := by simp; omega
  have c2 : decide ((40 : Int) < D) = false := by simp; omega
  have c3 : decide ((M : Int) < 0) = false := by simp
  have c4 : decide ((4200 : Int) < M) = false := by simp; omega
  have hS := Boxes.start w
  go_enter Tryz.func7, Tryz.ntmps7
  go_wp2_with (first | go_skip | (go_at_call 9; (with_reducible (refine (awake4_any _ (HV.out.step hS.below)).mono ?_)); rintro e wn ⟨rfl, hbn⟩; have hS1 := hS.step hbn; clear hS hbn; have hS := hS1; clear hS1) | ((with_reducible refine gate_op (op := .build 27 #[]) rfl ?_); refine build_arm rfl 27 #[] rfl #[] (by simp only [List.map_toArray, List.map_cons, List.map_nil]; rfl) _ (b0.out _) ?_) | ((with_reducible refine gate_op (op := .alloc 27) rfl ?_); refine alloc_arm rfl 27 rfl (val_alloc _) ?_; intro wn hbn hgn; have hS1 := hS.new hbn hgn; (try simp only [List.nil_append, List.cons_append, List.set_cons_zero, List.set_cons_succ] at hS1); clear hS hbn hgn; have hS := hS1; clear hS1) | ((with_reducible refine gate_op (op := .store 27 (.tmp 5) (.tmp 24)) rfl ?_); refine wpList_store_row rfl 27 (.tmp 5) (.tmp 24) rfl _ (VT.c VT.no) rfl rfl 27 _ (hS.at_ 0 rfl) (VT.val_info _) rfl (VT.c_one _) ?_; intro wn hbn hgn hon hsn; have hS1 := hS.put 0 rfl hon hbn hgn; (try simp only [List.nil_append, List.cons_append, List.set_cons_zero, List.set_cons_succ] at hS1); clear hS hbn hgn hon hsn; have hS := hS1; clear hS1))
  clear c1 c2 c3 c4
  obtain ⟨b5, e5, hS5⟩ := hS.name1
  clear hS
  rw [← e5]
  clear e5
  rename World => wn
  go_loopw [6] (fun iv wr => ∃ (k : Nat) (y : VT), k + 1 ≤ D ∧ iv = .int .i64 ((k : Int) + 1) ∧ Hid (sameV y (nest k) = true) ∧ Hid (VT.In wr.heap.size wr y) ∧ Boxes w wr [(b5, Obj.cells y.c 27)]) (fun iv _ => D - (intOf iv).toNat)
  case atStart => exact ⟨0, .no, h1, rfl, Lib.hid (sameV_self _), Lib.hid (VT.no_in _ _), hS5⟩
  case round =>
    clear hS5
    rename_i wr
    obtain ⟨k, y, hk, rfl, HY, YI, hS⟩ := hrel
    have hl5 := Lib.hid (hS.lt 0 rfl)
    by_cases hlt : k + 1 < D
    · have hltb : decide ((k : Int) + 1 < D) = true := by simp; omega
      have hsm := sm_same HY.out (nest_sm k)
      have SMY := Lib.hid hsm
      clear hsm
      go_wp2_with (first | go_skip | ((with_reducible refine gate_op (op := .load 27 (.tmp 5)) rfl ?_); refine wpList_load_row' rfl 27 (.tmp 5) rfl _ rfl 27 _ (0, 0) _ (hS.at_ 0 rfl) Tryz.underlying27 rfl (VT.val_info y) ?_) | ((with_reducible refine gate_op (op := .buildSlice 24 1 #[(0, .tmp 30)]) rfl ?_); refine slice_arm rfl 24 1 #[(0, .tmp 30)] rfl #[(0, .agg y.c)] (by simp only [List.map_toArray, List.map_cons, List.map_nil]; rfl) _ _ (s1.out y _) ?_; intro wn hbn hgn; have hS1 := hS.new hbn hgn; have yi := Lib.hid ((YI.out.move hbn).up hbn.size); clear hS hbn hgn YI; have hS := hS1; have YI := yi; clear hS1 yi))
      have hT := list_in (c := 1) (hS.at_ 1 rfl) (row_v1 y) (by decide) (fun _ _ => YI.out)
      refine (vList_any _ _ 0 1 1 _ _ hT (list_sm (by decide) (fun _ _ => SMY.out))).mono ?_
      rintro e w5 ⟨y', rfl, hy', hb5⟩
      have hS2 := hS.step hb5
      have hlw := hS.lt 0 rfl
      have HY' := Lib.hid (nest_next hy'.same HY.out)
      have HC := Lib.hid hy'
      clear hS hb5 hT hy'
      have hS := hS2
      clear hS2
      go_wp2_with (first | go_skip | ((with_reducible refine gate_op (op := .store 27 (.tmp 5) (.tmp 32)) rfl ?_); refine wpList_store_row rfl 27 (.tmp 5) (.tmp 32) rfl _ y'.c rfl rfl 27 _ (hS.at_ 0 rfl) (VT.val_info _) rfl (VT.c_one _) ?_; intro wn hbn hgn hon hsn; have hS1 := hS.put 0 rfl hon hbn hgn; have yi := Lib.hid (HC.out.put hlw hon hsn).tin; clear hS hbn hgn hon hsn HC; have hS := hS1; clear hS1))
      have hS3 := hS.drop (n := 1)
      clear hS
      have hS : Boxes w _ [(b5, Obj.cells y'.c 27)] := hS3
      clear hS3
      go_roundw
      case rel => exact ⟨k + 1, y', by omega, by go_num, HY', yi, hS⟩
      case measure => simp [intOf]; omega
    · have hge : decide ((k : Int) + 1 < D) = false := by simp; omega
      have hkD : D = k + 1 := by omega
      have hgd : goodT y = g := by rw [goodT_same HY.out, (nest_is (by omega)).1, ← HG.out, hkD]; simp; omega
      have hsz : sizeW y = (D : Int) := by rw [sizeW_same HY.out, (nest_is (by omega)).2.1, hkD]; omega
      have hdp : deepW y = (D : Int) := by rw [deepW_same HY.out, (nest_is (by omega)).2.2, hkD]; omega
      have CG := Lib.hid (fun W (hb : Below wr.heap.size wr W) => by have := goodT_any y W (HV.out.step (hS.below.trans (hb.mono hS.below.size))) ((YI.out.move hb).up hb.size); rwa [hgd] at this)
      have CS := Lib.hid (fun W (hb : Below wr.heap.size wr W) => by have := vsize_v y W ((YI.out.move hb).up hb.size); rwa [hsz] at this)
      have CD := Lib.hid (fun W (hb : Below wr.heap.size wr W) => by have := vdeep_v y W ((YI.out.move hb).up hb.size); rwa [hdp] at this)
      have WG := Lib.hid (fun (b : Nat) W (hw : Vars W) (hi : VT.In W.heap.size W (wideT b M)) => by have := goodT_any (wideT b M) W hw hi; rwa [show goodT (wideT b M) = m from by rw [wide_good, ← HM.out]; simp; omega] at this)
      have WS := Lib.hid (fun (b : Nat) W (hi : VT.In W.heap.size W (wideT b M)) => by have := vsize_v (wideT b M) W hi; rwa [wide_size b M (by omega)] at this)
      have B0 := Lib.hid hS.below
      have R0 := Lib.hid (hS.at_ 0 rfl)
      clear hS hgd hsz hdp hkD
      have hS := Boxes.start wr
      cases g <;> cases m
      all_goals
        have hg := HG.out
        have hm := HM.out
        go_wp2_with (first | go_skip | ((with_reducible refine gate_op (op := .makeSlice 24 (.tmp 33) (.tmp 33)) rfl ?_); refine makes_arm rfl 24 _ _ rfl _ _ rfl rfl M (vcellsN M) _ (mk.out _) ?_; intro wn hbn hgn; have hS1 := hS.new hbn hgn; (try simp only [List.nil_append, List.cons_append, List.set_cons_zero, List.set_cons_succ] at hS1); clear hS hbn hgn; have hS := hS1; clear hS1) | ((with_reducible refine gate_op (op := .build 27 #[(0, .const (.int .i64 5)), (3, .tmp 34)]) rfl ?_); refine build_arm rfl 27 #[(0, .const (.int .i64 5)), (3, .tmp 34)] rfl #[(0, .int .i64 5), (3, .slice (some ⟨wr.heap.size, 0, none⟩) M M)] (by simp only [List.map_toArray, List.map_cons, List.map_nil]; rfl) _ (bl.out wr.heap.size M _) ?_) | ((with_reducible refine gate_op (op := .alloc 27) rfl ?_); refine alloc_arm rfl 27 rfl (val_alloc _) ?_; intro wn hbn hgn; have hS1 := hS.new hbn hgn; (try simp only [List.nil_append, List.cons_append, List.set_cons_zero, List.set_cons_succ] at hS1); clear hS hbn hgn; have hS := hS1; clear hS1) | ((with_reducible refine gate_op (op := .store 27 (.tmp 7) (.tmp 35)) rfl ?_); refine wpList_store_row rfl 27 (.tmp 7) (.tmp 35) rfl _ (VT.c (wideT wr.heap.size M)) rfl rfl 27 _ (hS.at_ 1 rfl) (VT.val_info _) rfl (VT.c_one _) ?_; intro wn hbn hgn hon hsn; have hS1 := hS.put 1 rfl hon hbn hgn; (try simp only [List.nil_append, List.cons_append, List.set_cons_zero, List.set_cons_succ] at hS1); clear hS hbn hgn hon hsn; have hS := hS1; clear hS1) | ((with_reducible refine gate_op (op := .load 27 (.tmp 5)) rfl ?_); refine wpList_load_row' rfl 27 (.tmp 5) rfl _ rfl 27 _ (0, 0) _ ((hS.below.block _ hl5.out).trans R0.out) Tryz.underlying27 rfl (VT.val_info y) ?_) | ((with_reducible refine gate_op (op := .load 27 (.tmp 7)) rfl ?_); refine wpList_load_row' rfl 27 (.tmp 7) rfl _ rfl 27 _ (0, 0) _ (hS.at_ 1 rfl) Tryz.underlying27 rfl (VT.val_info (wideT wr.heap.size M)) ?_) | (go_at_call 17; (with_reducible (refine (CG.out _ hS.below).mono ?_)); rintro e wn ⟨rfl, hbn⟩; have hS1 := hS.step hbn; clear hS hbn; have hS := hS1; clear hS1) | (go_at_call 34; (with_reducible (refine (CS.out _ hS.below).mono ?_)); rintro e wn ⟨rfl, hbn⟩; have hS1 := hS.step hbn; clear hS hbn; have hS := hS1; clear hS1) | (go_at_call 33; (with_reducible (refine (CD.out _ hS.below).mono ?_)); rintro e wn ⟨rfl, hbn⟩; have hS1 := hS.step hbn; clear hS hbn; have hS := hS1; clear hS1) | (go_at_call 17; (with_reducible (refine (WG.out wr.heap.size _ (HV.out.step (B0.out.trans (hS.below.mono B0.out.size))) (list_in (hS.at_ 0 rfl) (vcellsN_at M) (by omega) (fun _ _ => VT.no_in _ _))).mono ?_)); rintro e wn ⟨rfl, hbn⟩; have hS1 := hS.step hbn; clear hS hbn; have hS := hS1; clear hS1) | (go_at_call 34; (with_reducible (refine (WS.out wr.heap.size _ (list_in (hS.at_ 0 rfl) (vcellsN_at M) (by omega) (fun _ _ => VT.no_in _ _))).mono ?_)); rintro e wn ⟨rfl, hbn⟩; have hS1 := hS.step hbn; clear hS hbn; have hS := hS1; clear hS1))
        go_ret
        exact ⟨rfl, B0.out.trans (hS.below.mono B0.out.size)⟩
theorem nests_any (hD : -9223372036854775808 ≤ dp ∧ dp ≤ 9223372036854775807) (hW : -9223372036854775808 ≤ wd ∧ wd ≤ 9223372036854775807) : Calls Tryz.prog 7 #[.int .i64 dp, .int .i64 wd] w fun e w' => e = .returned (.bool true) ∧ Below w.heap.size w w' := by
  by_cases hout : dp < 1 ∨ 40 < dp ∨ wd < 0 ∨ 4200 < wd
  · exact nests_out dp wd w hw hout hD hW
  · obtain ⟨D, rfl⟩ : ∃ D : Nat, dp = (D : Int) := ⟨dp.toNat, by omega⟩
    obtain ⟨M, rfl⟩ : ∃ M : Nat, wd = (M : Int) := ⟨wd.toNat, by omega⟩
    exact nests_in w hw D M (by omega) (by omega) (by omega) _ _ rfl rfl
end
theorem valueNests_walk (dp wd : Int) (w : World) (hw : Vars w) (wD : (Lit.int .i64 dp).wf = true) (wW : (Lit.int .i64 wd).wf = true) : Calls Tryz.prog 7 #[.int .i64 dp, .int .i64 wd] w fun e w' => e = .returned (.bool true) ∧ Below w.heap.size w w' := nests_any dp wd w hw (wf_i64 wD) (wf_i64 wW)
end Go.Proofs.YtcpmehppfccihaaGreatDoor
