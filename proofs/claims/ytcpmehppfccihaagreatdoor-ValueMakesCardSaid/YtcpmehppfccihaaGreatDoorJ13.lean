/-
  value.Bool, Int, Num, Str, Stamp, walked: the values that they make. Condition: the library's variables as it lays them.
  value.Copy tells a tree alike, all of it in blocks of its own. No condition.
  value.List, value.Null, for all lists. No condition.
-/
import Derived.Test.YtcpmehppfccihaaGreatDoorJ10
import Derived.Test.YtcpmehppfccihaaGreatDoorJ8
import Derived.Test.YtcpmehppfccihaaGreatDoorJ7
import Derived.Test.YtcpmehppfccihaaGreatDoorJ9
namespace Go.Proofs.YtcpmehppfccihaaGreatDoor
open Go.RowKit
set_option linter.unusedVariables false
set_option linter.unusedSimpArgs false
/-- A value and an error, handed back. -/
def outV (r : VT × Int) : Value := .tuple #[.agg r.1.c, .int .i64 r.2]
theorem val_alloc (W : World) : (Instr.alloc 27 true (.tuple #[])).run Tryz.prog W = .ok (.pointer (some ⟨W.heap.size, 0, none⟩)) (W.alloc (Obj.cells VT.no.c 27)) := by kernel_rfl
theorem build_no (W : World) : (Instr.build 27 #[]).run Tryz.prog W = .ok (.agg VT.no.c) W := by kernel_rfl
theorem build_k (k : Int) (W : World) : (Instr.build 27 #[(0, .int .i64 k)]).run Tryz.prog W = .ok (.agg (VT.leaf k 0 ⟨#[]⟩).c) W := by kernel_rfl
theorem build_ks (k : Int) (s : ByteArray) (W : World) : (Instr.build 27 #[(0, .int .i64 k), (2, .string s)]).run Tryz.prog W = .ok (.agg (VT.leaf k 0 s).c) W := by kernel_rfl
theorem build_kn (k n : Int) (W : World) : (Instr.build 27 #[(0, .int .i64 k), (1, .int .i64 n)]).run Tryz.prog W = .ok (.agg (VT.leaf k n ⟨#[]⟩).c) W := by kernel_rfl
set_option maxHeartbeats 1000000 in
theorem vInt_any (n : Int) (w : World) : Calls Tryz.prog 25 #[.int .i64 n] w fun e w' => e = .returned (.agg (VT.leaf 2 n ⟨#[]⟩).c) ∧ Below w.heap.size w w' := by
  have hS := Boxes.start w
  have b1 := build_kn
  go_enter Tryz.func25, Tryz.ntmps25
  go_wp2_with (first | go_skip | ((with_reducible refine gate_op (op := .alloc 27) rfl ?_); refine alloc_arm rfl 27 rfl (val_alloc _) ?_; intro wn hbn hgn; have hS1 := hS.new hbn hgn; clear hS hbn hgn; have hS := hS1; clear hS1) | ((with_reducible refine gate_op (op := .store 27 (.tmp 2) (.tmp 4)) rfl ?_); refine wpList_store_row rfl 27 (.tmp 2) (.tmp 4) rfl _ (VT.c (VT.leaf 2 n ⟨#[]⟩)) rfl rfl 27 _ (hS.at_ 0 rfl) (VT.val_info _) rfl (VT.c_one _) ?_; intro wn hbn hgn hon hsn; have hS1 := hS.put 0 rfl hon hbn hgn; clear hS hbn hgn hon hsn; have hS := hS1; clear hS1))
  exact bodyPost_ret (v := .agg (VT.leaf 2 n ⟨#[]⟩).c) (results_cell_row rfl _ _ _ _ _ _ _ rfl (hS.at_ 0 rfl) Tryz.underlying27 rfl (VT.val_info _)) rfl ⟨rfl, hS.below⟩
set_option maxHeartbeats 1000000 in
theorem vNum_any (s : ByteArray) (w : World) (hw : Vars w) (hg : goodN s.data.toList = true) : Calls Tryz.prog 10 #[.string s] w fun e w' => e = .returned (outV (numT s, 0)) ∧ Below w.heap.size w w' := by
  have HV := Lib.hid hw
  have hS := Boxes.start w
  have b1 := build_ks
  have Hg := Lib.hid (fun W => good_any s W)
  have hi := fun (W : World) (hW : Below w.heap.size w W) => int_any s W (hw.step hW) good_ascii
  have hh := Lib.hid hg
  rw [hg] at Hg
  clear hw hg
  unfold numT
  generalize (intN s.data.toList).getD 0 = n at *
  cases hx : (intN s.data.toList).isSome
  · rw [hx] at hi
    have HI := Lib.hid hi
    clear hi hx
    go_enter Tryz.func10, Tryz.ntmps10
    go_wp2_with (first | go_skip | ((with_reducible refine gate_op (op := .alloc 27) rfl ?_); refine alloc_arm rfl 27 rfl (val_alloc _) ?_; intro wn hbn hgn; have hS1 := hS.new hbn hgn; clear hS hbn hgn; have hS := hS1; clear hS1) | (go_at_call 37; (with_reducible (refine (Hg.out _).mono ?_)); rintro e wn ⟨rfl, hbn⟩; have hS1 := hS.step hbn; clear hS hbn; have hS := hS1; clear hS1) | (go_at_call 38; (with_reducible (refine (HI.out _ hS.below).mono ?_)); rintro e wn ⟨rfl, hbn⟩; have hS1 := hS.step hbn; clear hS hbn; have hS := hS1; clear hS1) | ((with_reducible refine gate_op (op := .store 27 (.tmp 2) (.tmp 19)) rfl ?_); refine wpList_store_row rfl 27 (.tmp 2) (.tmp 19) rfl _ (VT.c (VT.leaf 3 0 s)) rfl rfl 27 _ (hS.at_ 0 rfl) (VT.val_info _) rfl (VT.c_one _) ?_; intro wn hbn hgn hon hsn; have hS1 := hS.put 0 rfl hon hbn hgn; clear hS hbn hgn hon hsn; have hS := hS1; clear hS1))
    exact bodyPost_ret (v := (outV (VT.leaf 3 0 s, 0))) (results_row_tmp rfl _ _ _ _ _ _ _ _ rfl rfl (hS.at_ 0 rfl) Tryz.underlying27 rfl (VT.val_info _)) rfl ⟨rfl, hS.below⟩
  · rw [hx] at hi
    have HI := Lib.hid hi
    clear hi hx
    go_enter Tryz.func10, Tryz.ntmps10
    go_wp2_with (first | go_skip | ((with_reducible refine gate_op (op := .alloc 27) rfl ?_); refine alloc_arm rfl 27 rfl (val_alloc _) ?_; intro wn hbn hgn; have hS1 := hS.new hbn hgn; clear hS hbn hgn; have hS := hS1; clear hS1) | (go_at_call 37; (with_reducible (refine (Hg.out _).mono ?_)); rintro e wn ⟨rfl, hbn⟩; have hS1 := hS.step hbn; clear hS hbn; have hS := hS1; clear hS1) | (go_at_call 38; (with_reducible (refine (HI.out _ hS.below).mono ?_)); rintro e wn ⟨rfl, hbn⟩; have hS1 := hS.step hbn; clear hS hbn; have hS := hS1; clear hS1) | (go_at_call 25; (with_reducible (refine (vInt_any n _).mono ?_)); rintro e wn ⟨rfl, hbn⟩; have hS1 := hS.step hbn; clear hS hbn; have hS := hS1; clear hS1) | ((with_reducible refine gate_op (op := .store 27 (.tmp 2) (.tmp 17)) rfl ?_); refine wpList_store_row rfl 27 (.tmp 2) (.tmp 17) rfl _ (VT.c (VT.leaf 2 n ⟨#[]⟩)) rfl rfl 27 _ (hS.at_ 0 rfl) (VT.val_info _) rfl (VT.c_one _) ?_; intro wn hbn hgn hon hsn; have hS1 := hS.put 0 rfl hon hbn hgn; clear hS hbn hgn hon hsn; have hS := hS1; clear hS1))
    exact bodyPost_ret (v := (outV (VT.leaf 2 n ⟨#[]⟩, 0))) (results_row_tmp rfl _ _ _ _ _ _ _ _ rfl rfl (hS.at_ 0 rfl) Tryz.underlying27 rfl (VT.val_info _)) rfl ⟨rfl, hS.below⟩
set_option maxHeartbeats 1000000 in
theorem vNum_bad (s : ByteArray) (w : World) (hg : goodN s.data.toList = false) : Calls Tryz.prog 10 #[.string s] w fun e w' => e = .returned (outV (.no, 1)) ∧ Below w.heap.size w w' := by
  have hS := Boxes.start w
  have b1 := build_no
  have Hg := Lib.hid (fun W => good_any s W)
  rw [hg] at Hg
  clear hg
  go_enter Tryz.func10, Tryz.ntmps10
  go_wp2_with (first | go_skip | ((with_reducible refine gate_op (op := .alloc 27) rfl ?_); refine alloc_arm rfl 27 rfl (val_alloc _) ?_; intro wn hbn hgn; have hS1 := hS.new hbn hgn; clear hS hbn hgn; have hS := hS1; clear hS1) | (go_at_call 37; (with_reducible (refine (Hg.out _).mono ?_)); rintro e wn ⟨rfl, hbn⟩; have hS1 := hS.step hbn; clear hS hbn; have hS := hS1; clear hS1) | ((with_reducible refine gate_op (op := .store 27 (.tmp 2) (.tmp 9)) rfl ?_); refine wpList_store_row rfl 27 (.tmp 2) (.tmp 9) rfl _ (VT.c VT.no) rfl rfl 27 _ (hS.at_ 0 rfl) (VT.val_info _) rfl (VT.c_one _) ?_; intro wn hbn hgn hon hsn; have hS1 := hS.put 0 rfl hon hbn hgn; clear hS hbn hgn hon hsn; have hS := hS1; clear hS1))
  exact bodyPost_ret (v := (outV (.no, 1))) (results_row_tmp rfl _ _ _ _ _ _ _ _ rfl rfl (hS.at_ 0 rfl) Tryz.underlying27 rfl (VT.val_info _)) rfl ⟨rfl, hS.below⟩
set_option maxHeartbeats 1000000 in
theorem vStr_any (s : ByteArray) (w : World) (hs : s.size ≤ 9223372036854775807) : Calls Tryz.prog 11 #[.string s] w fun e w' => e = .returned (outV (strR s)) ∧ Below w.heap.size w w' := by
  have hS := Boxes.start w
  have b1 := build_ks
  have b2 := build_no
  have hl := fun W => letters_any s W hs
  unfold strR
  generalize letC s = n at *
  have HL := Lib.hid hl
  clear hl
  cases hx : (n == 0)
  · have hx2 : (n != 0) = true := congrArg (fun b => !b) hx
    go_enter Tryz.func11, Tryz.ntmps11
    go_wp2_with (first | go_skip | ((with_reducible refine gate_op (op := .alloc 27) rfl ?_); refine alloc_arm rfl 27 rfl (val_alloc _) ?_; intro wn hbn hgn; have hS1 := hS.new hbn hgn; clear hS hbn hgn; have hS := hS1; clear hS1) | (go_at_call 39; (with_reducible (refine (HL.out _).mono ?_)); rintro e wn ⟨rfl, hbn⟩; have hS1 := hS.step hbn; clear hS hbn; have hS := hS1; clear hS1) | ((with_reducible refine gate_op (op := .store 27 (.tmp 2) (.tmp 9)) rfl ?_); refine wpList_store_row rfl 27 (.tmp 2) (.tmp 9) rfl _ (VT.c VT.no) rfl rfl 27 _ (hS.at_ 0 rfl) (VT.val_info _) rfl (VT.c_one _) ?_; intro wn hbn hgn hon hsn; have hS1 := hS.put 0 rfl hon hbn hgn; clear hS hbn hgn hon hsn; have hS := hS1; clear hS1))
    exact bodyPost_ret (v := (outV (.no, n))) (results_row_tmp rfl _ _ _ _ _ _ _ _ rfl rfl (hS.at_ 0 rfl) Tryz.underlying27 rfl (VT.val_info _)) rfl ⟨rfl, hS.below⟩
  · have hx2 : (n != 0) = false := congrArg (fun b => !b) hx
    go_enter Tryz.func11, Tryz.ntmps11
    go_wp2_with (first | go_skip | ((with_reducible refine gate_op (op := .alloc 27) rfl ?_); refine alloc_arm rfl 27 rfl (val_alloc _) ?_; intro wn hbn hgn; have hS1 := hS.new hbn hgn; clear hS hbn hgn; have hS := hS1; clear hS1) | (go_at_call 39; (with_reducible (refine (HL.out _).mono ?_)); rintro e wn ⟨rfl, hbn⟩; have hS1 := hS.step hbn; clear hS hbn; have hS := hS1; clear hS1) | ((with_reducible refine gate_op (op := .store 27 (.tmp 2) (.tmp 12)) rfl ?_); refine wpList_store_row rfl 27 (.tmp 2) (.tmp 12) rfl _ (VT.c (VT.leaf 4 0 s)) rfl rfl 27 _ (hS.at_ 0 rfl) (VT.val_info _) rfl (VT.c_one _) ?_; intro wn hbn hgn hon hsn; have hS1 := hS.put 0 rfl hon hbn hgn; clear hS hbn hgn hon hsn; have hS := hS1; clear hS1))
    exact bodyPost_ret (v := (outV (VT.leaf 4 0 s, 0))) (results_row_tmp rfl _ _ _ _ _ _ _ _ rfl rfl (hS.at_ 0 rfl) Tryz.underlying27 rfl (VT.val_info _)) rfl ⟨rfl, hS.below⟩
set_option maxHeartbeats 1000000 in
theorem vStamp_any (s : ByteArray) (w : World) (hs : s.size ≤ 9223372036854775807) : Calls Tryz.prog 12 #[.string s] w fun e w' => e = .returned (outV (if stampB s then (VT.leaf 7 0 s, 0) else (.no, 1))) ∧ Below w.heap.size w w' := by
  have hS := Boxes.start w
  have b1 := build_ks
  have b2 := build_no
  have hl := fun W => stamp_any s W hs
  cases hx : stampB s
  · rw [hx] at hl
    have HL := Lib.hid hl
    clear hl hx
    go_enter Tryz.func12, Tryz.ntmps12
    go_wp2_with (first | go_skip | ((with_reducible refine gate_op (op := .alloc 27) rfl ?_); refine alloc_arm rfl 27 rfl (val_alloc _) ?_; intro wn hbn hgn; have hS1 := hS.new hbn hgn; clear hS hbn hgn; have hS := hS1; clear hS1) | (go_at_call 40; (with_reducible (refine (HL.out _).mono ?_)); rintro e wn ⟨rfl, hbn⟩; have hS1 := hS.step hbn; clear hS hbn; have hS := hS1; clear hS1) | ((with_reducible refine gate_op (op := .store 27 (.tmp 2) (.tmp 7)) rfl ?_); refine wpList_store_row rfl 27 (.tmp 2) (.tmp 7) rfl _ (VT.c VT.no) rfl rfl 27 _ (hS.at_ 0 rfl) (VT.val_info _) rfl (VT.c_one _) ?_; intro wn hbn hgn hon hsn; have hS1 := hS.put 0 rfl hon hbn hgn; clear hS hbn hgn hon hsn; have hS := hS1; clear hS1))
    exact bodyPost_ret (v := (outV (.no, 1))) (results_row_tmp rfl _ _ _ _ _ _ _ _ rfl rfl (hS.at_ 0 rfl) Tryz.underlying27 rfl (VT.val_info _)) rfl ⟨rfl, hS.below⟩
  · rw [hx] at hl
    have HL := Lib.hid hl
    clear hl hx
    go_enter Tryz.func12, Tryz.ntmps12
    go_wp2_with (first | go_skip | ((with_reducible refine gate_op (op := .alloc 27) rfl ?_); refine alloc_arm rfl 27 rfl (val_alloc _) ?_; intro wn hbn hgn; have hS1 := hS.new hbn hgn; clear hS hbn hgn; have hS := hS1; clear hS1) | (go_at_call 40; (with_reducible (refine (HL.out _).mono ?_)); rintro e wn ⟨rfl, hbn⟩; have hS1 := hS.step hbn; clear hS hbn; have hS := hS1; clear hS1) | ((with_reducible refine gate_op (op := .store 27 (.tmp 2) (.tmp 9)) rfl ?_); refine wpList_store_row rfl 27 (.tmp 2) (.tmp 9) rfl _ (VT.c (VT.leaf 7 0 s)) rfl rfl 27 _ (hS.at_ 0 rfl) (VT.val_info _) rfl (VT.c_one _) ?_; intro wn hbn hgn hon hsn; have hS1 := hS.put 0 rfl hon hbn hgn; clear hS hbn hgn hon hsn; have hS := hS1; clear hS1))
    exact bodyPost_ret (v := (outV (VT.leaf 7 0 s, 0))) (results_row_tmp rfl _ _ _ _ _ _ _ _ rfl rfl (hS.at_ 0 rfl) Tryz.underlying27 rfl (VT.val_info _)) rfl ⟨rfl, hS.below⟩
end Go.Proofs.YtcpmehppfccihaaGreatDoor
namespace Go.Proofs.YtcpmehppfccihaaGreatDoor
open Go.RowKit
set_option linter.unusedVariables false
set_option linter.unusedSimpArgs false
set_option linter.unusedSectionVars false
theorem boxC_one (t : VT) (A1 A2 : Option Addr) (c1 c2 : Nat) : (boxC t A1 A2 c1 c2).all (·.oneCell') = true := by simp [boxC, Value.oneCell']
def CopyOk (t : VT) : Prop := ∀ (w : World), VT.In w.heap.size w t → VT.Sm t → Calls Tryz.prog 30 #[.agg t.c] w fun e w' => ∃ y : VT, e = .returned (.agg y.c) ∧ Cop w.heap.size t y w' ∧ Below w.heap.size w w'
set_option maxRecDepth 100000 in
set_option maxHeartbeats 4000000 in
theorem vcopy_go (t : VT) (w : World) (ht : VT.In w.heap.size w t) (hs : VT.Sm t) (ihl : ∀ i, i < t.ln → CopyOk (t.lt i)) (ihm : ∀ i, i < t.mn → CopyOk (t.mt i)) : Calls Tryz.prog 30 #[.agg t.c] w fun e w' => ∃ y : VT, e = .returned (.agg y.c) ∧ Cop w.heap.size t y w' ∧ Below w.heap.size w w' := by
  have IL := Lib.hid ihl
  have IM := Lib.hid ihm
  have SM := Lib.hid hs
  clear ihl ihm hs
  have HA := ht.here
  have hll := HA.ll
  have hml := HA.ml
  have HT := Lib.hid ht
  clear ht
  have hS : Boxes w (w.alloc (Obj.cells t.c 27)) [(w.heap.size, Obj.cells t.c 27)] := (Boxes.start w).alloc (Obj.cells t.c 27)
  have hW0 : (w.alloc (Obj.cells t.c 27)).heap.size = w.heap.size + 1 := Array.size_push ..
  go_enter Tryz.func30, Tryz.ntmps30
  go_wp2_with (first | go_skip | ((with_reducible refine gate_op (op := .alloc 27) rfl ?_); generalize (w.alloc (Obj.cells t.c 27)) = W0 at *; refine alloc_arm rfl 27 rfl (val_alloc _) ?_; intro wn hbn hgn; have hS1 := hS.new hbn hgn; clear hS hbn hgn; have hS := hS1; clear hS1))
  rename World => w1
  rw [hW0] at hS ⊢
  have hS : Boxes w w1 [(w.heap.size, Obj.cells t.c 27), (w.heap.size + 1, Obj.cells VT.no.c 27)] := hS
  refine regCopy1 (by kernel_rfl) (b0 := w.heap.size) (s3 := .slice t.lA t.ln t.lc) (s4 := .slice t.mA t.mn t.mc) (box := t.c) (RV := Cl 27 5 w1.heap.size t.ln (fun i => (t.lt i).c)) (RP := Cl 34 6 w1.heap.size t.mn (fun i => t.pc i)) (of_decide_eq_true (by kernel_rfl)) rfl (hS.at_ 0 rfl) rfl rfl ?_ ?_ (fun v W W' h hb => h.step hb) (fun v W W' h hb => h.step hb) ?_
  · intro W hb
    exact (cloneV_any ((HT.out.move (hS.step hb).below).up (hS.step hb).below.size) SM.out.l0).mono fun e w' ⟨v, he, hv, hb'⟩ => ⟨v, he, hv.low hb.size, hb'⟩
  · intro W hb
    exact (cloneP_any ((HT.out.move (hS.step hb).below).up (hS.step hb).below.size) SM.out.m0).mono fun e w' ⟨v, he, hv, hb'⟩ => ⟨v, he, hv.low hb.size, hb'⟩
  intro θ wX hV hP e6 hX
  simp only [seqTo, dstOf, Act.put, List.getElem?_toArray, List.getElem?_cons_zero, List.getElem?_cons_succ, Option.bind_some, List.setIfInBounds_toArray, List.set_cons_zero, List.set_cons_succ, List.drop_succ_cons, List.drop_zero]
  have hS1 := hS.step hX
  have hw1 := hS.lt 1 rfl
  clear hS
  obtain ⟨A1, g1, c1, cu1, e2, f1⟩ := hV
  obtain ⟨A2, g2, c2, cu2, e5, f2⟩ := hP
  rw [e2, e5, e6]
  have F1 := Lib.hid f1
  have F2 := Lib.hid f2
  clear e2 e5 e6 f1 f2 hW0
  have hO : Hid (∀ k, k ≠ w.heap.size → wX.heap[k]? = wX.heap[k]?) := fun k hk => rfl
  have hZ : Hid (wX.heap.size = wX.heap.size) := rfl
  refine store_elem rfl 24 (.tmp 11) _ rfl _ 3 (.slice A1 t.ln c1) rfl rfl rfl 27 _ _ (hS1.at_ 0 rfl) rfl (by kernel_rfl) ?_; intro wn hgn hon hbn hsn; have hS2 := hS1.put 0 rfl hon hbn hgn; have hO1 := Lib.hid (fun k hk => (hon k hk).trans (hO.out k hk)); have hZ1 := Lib.hid (hsn.trans hZ.out); clear hS1 hgn hon hbn hsn hO hZ; have hS1 := hS2; have hO := hO1; have hZ := hZ1; clear hS2 hO1 hZ1
  go_wp2_with (first | go_skip | ((with_reducible refine gate_op (op := .store 25 (.tmp 12) (.tmp 10)) rfl ?_); refine store_elem rfl 25 (.tmp 12) _ rfl _ 4 (.slice A2 t.mn c2) rfl rfl rfl 27 _ _ (hS1.at_ 0 rfl) rfl (by kernel_rfl) ?_; intro wn hgn hon hbn hsn; have hS2 := hS1.put 0 rfl hon hbn hgn; have hO1 := Lib.hid (fun k hk => (hon k hk).trans (hO.out k hk)); have hZ1 := Lib.hid (hsn.trans hZ.out); clear hS1 hgn hon hbn hsn hO hZ; have hS1 := hS2; have hO := hO1; have hZ := hZ1; clear hS2 hO1 hZ1; have c3 := (cell_of_row _ _ 3 _ _ _ (hS1.at_ 0 rfl)).trans (show _ = some (.slice A1 t.ln c1) from rfl)))
  have hF : CopF w t wX.heap.size A1 A2 g1 g2 c1 c2 := by
    refine ⟨fun hn => ?_, fun hn => ?_, fun hn hm hg => ?_, Nat.le_trans (by omega) hX.size⟩
    · obtain ⟨k1, k2, k3, _, k5, _⟩ := F1.out hn
      exact ⟨k1, by omega, (Array.getElem?_eq_some_iff.1 k3).1, k5⟩
    · obtain ⟨k1, k2, k3, _, k5, _⟩ := F2.out hn
      exact ⟨k1, by omega, (Array.getElem?_eq_some_iff.1 k3).1, k5⟩
    · have k1 := (F1.out hn).2.2.1
      have k2 := (F2.out hm).2.2.1
      rw [hg, k2] at k1
      injection k1 with k1
      injection k1 with _ k1
      exact absurd k1 (by decide)
  rename World => w3
  have hI : CopI w t wX.heap.size A1 A2 g1 g2 c1 c2 (fun _ => .no) (fun _ => .no) 0 0 w3 := by
    refine ⟨hS1.below, hS1.at_ 0 rfl, hS1.at_ 1 rfl, Nat.le_of_eq hZ.out.symm, fun hn => ?_, fun hn => ?_, fun k hk => absurd hk (Nat.not_lt_zero k), fun k hk => absurd hk (Nat.not_lt_zero k), fun k l _ hl => absurd hl (Nat.not_lt_zero l), fun k l _ hl => absurd hl (Nat.not_lt_zero l), fun k l hk _ => absurd hk (Nat.not_lt_zero k)⟩
    · obtain ⟨k1, k2, k3, k4, k5, k6⟩ := F1.out hn
      exact ⟨cu1, (hO.out g1 (by omega)).trans k3, k4, fun k hk q u hu => k6 k hk q u hu⟩
    · obtain ⟨k1, k2, k3, k4, k5, k6⟩ := F2.out hn
      exact ⟨cu2, (hO.out g2 (by omega)).trans k3, k4, fun k hk q u hu => k6 k hk q u hu⟩
  generalize wX.heap.size = B at *
  have HF := Lib.hid hF
  clear F1 F2 hS1 hO hZ hX hF c3
  go_loopw [3, 16] (fun x iv wr => ∃ (i : Nat) (F : Nat → VT), i ≤ t.ln ∧ iv = .int .i64 (i : Int) ∧ CopI w t B A1 A2 g1 g2 c1 c2 F (fun _ => .no) i 0 wr) (fun _ iv _ => t.ln - (intOf iv).toNat)
  case atStart => exact ⟨0, _, Nat.zero_le _, rfl, hI⟩
  case round =>
    clear hI
    rename_i wr
    obtain ⟨i, F, hi, rfl, hI⟩ := hrel
    have HI := Lib.hid hI
    by_cases hlt : i < t.ln
    · have hltb : decide ((i : Int) < t.ln) = true := by simp; omega
      obtain ⟨cur, hrow, hcs, hcu⟩ := hI.rowL (by omega)
      have hbox := hI.box
      have hbl := hI.below
      have HC := Lib.hid (And.intro hcs hcu)
      clear hI hcs hcu
      go_wp2_with go_skip
      refine regCopy5 (by kernel_rfl) (b0 := w.heap.size) (g := g1) (n := t.ln) (c := c1) (i := i) (x := t.lt i) (box := boxC t A1 A2 c1 c2) (cur := cur) (of_decide_eq_true (by kernel_rfl)) rfl rfl hlt hbox (by rw [(HF.out.l (by omega)).1]; rfl) hrow (fun q u hu => HC.out.2 i hlt q u (by rw [if_neg (Nat.lt_irrefl i)]; exact hu)) (fun W hb => IL.out i hlt W (((HT.out.l i hlt).move (hbl.trans (hb.mono hbl.size))).up (hbl.trans (hb.mono hbl.size)).size) (SM.out.l i hlt)) ?_
      intro θ wY y e8 e9 hy hY
      simp only [seqTo, dstOf, Act.put, List.getElem?_toArray, List.getElem?_cons_zero, List.getElem?_cons_succ, Option.bind_some, List.setIfInBounds_toArray, List.set_cons_zero, List.set_cons_succ, List.drop_succ_cons, List.drop_zero]
      rw [e8, e9]
      clear e8 e9
      refine store_sub rfl 27 (.tmp 28) (.tmp 27) rfl g1 (i * 5) y.c rfl rfl (all_mem (VT.c_one _)) 27 cur ((hY.block g1 (Array.getElem?_eq_some_iff.1 hrow).1).trans hrow) (by have := (HF.out.l (by omega)).2.2.2; rw [HC.out.1]; show i * 5 + 5 ≤ _; omega) (VT.val_info _) ?_
      intro wn hgn hon hbn hsn
      have hN := CopI.nextL HF.out HI.out hlt hrow hY hy hgn hon hbn hsn
      clear hgn hon hbn hsn hrow hbox hbl
      go_wp2_with go_skip
      go_roundw
      case rel => exact ⟨i + 1, _, by omega, by go_num, hN⟩
      case measure => simp [intOf]; omega
    · have hge : decide ((i : Int) < t.ln) = false := by simp; omega
      obtain rfl : i = t.ln := by omega
      have c4 : wr.cell? ⟨w.heap.size, 4, none⟩ = some (.slice A2 t.mn c2) := cell_of_row _ _ 4 _ _ _ hI.box
      clear hI
      go_wp2_with go_skip
      go_loopw [4, 33] (fun x iv wr => ∃ (i : Nat) (G : Nat → VT), i ≤ t.mn ∧ iv = .int .i64 (i : Int) ∧ CopI w t B A1 A2 g1 g2 c1 c2 F G t.ln i wr) (fun _ iv _ => t.mn - (intOf iv).toNat)
      case atStart => exact ⟨0, _, Nat.zero_le _, rfl, HI.out⟩
      case round =>
        clear HI c4
        rename_i wr
        obtain ⟨i, G, hi, rfl, hI⟩ := hrel
        have HI := Lib.hid hI
        by_cases hlt : i < t.mn
        · have hltb : decide ((i : Int) < t.mn) = true := by simp; omega
          obtain ⟨cur, hrow, hcs, hcu⟩ := hI.rowM (by omega)
          have hbox := hI.box
          have hbl := hI.below
          have HC := Lib.hid (And.intro hcs hcu)
          clear hI hcs hcu
          go_wp2_with go_skip
          refine regCopy10 (by kernel_rfl) (b0 := w.heap.size) (g := g2) (n := t.mn) (c := c2) (i := i) (x := t.mt i) (box := boxC t A1 A2 c1 c2) (cur := cur) (of_decide_eq_true (by kernel_rfl)) rfl rfl hlt hbox (by rw [(HF.out.m (by omega)).1]; rfl) hrow (fun q u hu => by rw [show i * 6 + 1 + q = i * 6 + (q + 1) by omega]; refine HC.out.2 i hlt (q + 1) u ?_; rw [if_neg (Nat.lt_irrefl i), ← hu]; simp [pcK, VT.c]) (fun W hb => IM.out i hlt W (((HT.out.m i hlt).move (hbl.trans (hb.mono hbl.size))).up (hbl.trans (hb.mono hbl.size)).size) (SM.out.m i hlt)) ?_
          intro θ wY y e8 e9 hy hY
          simp only [seqTo, dstOf, Act.put, List.getElem?_toArray, List.getElem?_cons_zero, List.getElem?_cons_succ, Option.bind_some, List.setIfInBounds_toArray, List.set_cons_zero, List.set_cons_succ, List.drop_succ_cons, List.drop_zero]
          rw [e8, e9]
          clear e8 e9
          refine store_sub rfl 27 (.tmp 47) (.tmp 45) rfl g2 (i * 6 + 1) y.c rfl rfl (all_mem (VT.c_one _)) 34 cur ((hY.block g2 (Array.getElem?_eq_some_iff.1 hrow).1).trans hrow) (by have := (HF.out.m (by omega)).2.2.2; rw [HC.out.1]; show i * 6 + 1 + 5 ≤ _; omega) (VT.val_info _) ?_
          intro wn hgn hon hbn hsn
          have hN := CopI.nextM HF.out HI.out hlt hrow hY hy hgn hon hbn hsn
          clear hgn hon hbn hsn hrow hbox hbl
          go_wp2_with go_skip
          go_roundw
          case rel => exact ⟨i + 1, _, by omega, by go_num, hN⟩
          case measure => simp [intOf]; omega
        · have hge : decide ((i : Int) < t.mn) = false := by simp; omega
          obtain rfl : i = t.mn := by omega
          have hbox := hI.box
          have hres := hI.res
          clear hI
          go_wp2_with (first | go_skip | (refine wpList_load_row' rfl 27 (.tmp 1) rfl _ rfl 27 _ (0, 0) _ hbox Tryz.underlying27 rfl (VT.val_info t) ?_) | (refine wpList_store_row rfl 27 (.tmp 2) (.tmp 49) rfl _ (boxC t A1 A2 c1 c2) rfl rfl 27 _ hres (VT.val_info t) rfl (boxC_one t A1 A2 c1 c2) ?_; intro wn hbn hgn hon hsn))
          exact bodyPost_ret (v := .agg (boxC t A1 A2 c1 c2)) (results_cell_row rfl _ _ _ _ _ _ _ rfl hgn Tryz.underlying27 rfl (VT.val_info t)) rfl ⟨outT t A1 A2 g1 g2 c1 c2 F G, rfl, CopI.end_ HF.out HA HI.out hon hsn, HI.out.below.trans (hbn.mono (by omega))⟩
theorem vCopy_any (t : VT) : CopyOk t := by
  have key : ∀ t : VT, (∀ i, i < t.ln → CopyOk (t.lt i)) → (∀ i, i < t.mn → CopyOk (t.mt i)) → CopyOk t := fun t ihl ihm w ht hs => vcopy_go t w ht hs ihl ihm
  induction t with
  | no => exact key .no (fun i hi => absurd hi (Nat.not_lt_zero i)) (fun i hi => absurd hi (Nat.not_lt_zero i))
  | mk k n s lA lb lo ln lc lt mA mb mo mn mc ky mt ihl ihm => exact key (.mk k n s lA lb lo ln lc lt mA mb mo mn mc ky mt) (fun i _ => ihl i) (fun i _ => ihm i)
end Go.Proofs.YtcpmehppfccihaaGreatDoor
namespace Go.Proofs.YtcpmehppfccihaaGreatDoor
open Go.RowKit
set_option linter.unusedVariables false
set_option linter.unusedSimpArgs false
set_option linter.unusedSectionVars false
theorem vNull_any (w : World) : Calls Tryz.prog 36 #[] w fun e w' => e = .returned (.agg VT.no.c) ∧ Below w.heap.size w w' := by
  have hS := Boxes.start w
  have b1 := build_no
  go_enter Tryz.func36, Tryz.ntmps36
  go_wp2_with (first | go_skip | ((with_reducible refine gate_op (op := .alloc 27) rfl ?_); refine alloc_arm rfl 27 rfl (val_alloc _) ?_; intro wn hbn hgn; have hS1 := hS.new hbn hgn; clear hS hbn hgn; have hS := hS1; clear hS1) | ((with_reducible refine gate_op (op := .store 27 (.tmp 0) (.tmp 1)) rfl ?_); refine wpList_store_row rfl 27 (.tmp 0) (.tmp 1) rfl _ VT.no.c rfl rfl 27 _ (hS.at_ 0 rfl) (VT.val_info _) rfl (VT.c_one _) ?_; intro wn hbn hgn hon hsn))
  exact bodyPost_ret (v := .agg VT.no.c) (results_cell_row rfl _ _ _ _ _ _ _ rfl hgn Tryz.underlying27 rfl (VT.val_info _)) rfl ⟨rfl, hS.below.trans (hbn.mono (Nat.le_refl _))⟩
/-- A list of these elements. -/
def listT (A : Option Addr) (lb lo n c : Nat) (lt : Nat → VT) : VT := .mk 5 0 ⟨#[]⟩ A lb lo n c lt none 0 0 0 0 (fun _ => ⟨#[]⟩) (fun _ => .no)
theorem build_l (A : Option Addr) (n c : Nat) (W : World) : (Instr.build 27 #[(0, .int .i64 5), (3, .slice A n c)]).run Tryz.prog W = .ok (.agg #[.int .i64 5, .int .i64 0, .string ⟨#[]⟩, .slice A n c, .slice none 0 0]) W := by kernel_rfl
set_option maxRecDepth 100000 in
set_option maxHeartbeats 1000000 in
theorem vList_any (A : Option Addr) (lb lo n c : Nat) (lt : Nat → VT) (w : World) (ht : VT.In w.heap.size w (listT A lb lo n c lt)) (hs : VT.Sm (listT A lb lo n c lt)) :
    Calls Tryz.prog 29 #[.slice A n c] w fun e w' => ∃ y : VT, e = .returned (.agg y.c) ∧ Cop w.heap.size (listT A lb lo n c lt) y w' ∧ Below w.heap.size w w' := by
  have hS := Boxes.start w
  have b1 := build_l
  have HK := Lib.hid (fun W (hb : Below w.heap.size w W) => vCopy_any (listT A lb lo n c lt) W ((ht.move hb).up hb.size) hs)
  clear ht hs
  go_enter Tryz.func29, Tryz.ntmps29
  go_wp2_with (first | go_skip | ((with_reducible refine gate_op (op := .alloc 27) rfl ?_); refine alloc_arm rfl 27 rfl (val_alloc _) ?_; intro wn hbn hgn; have hS1 := hS.new hbn hgn; clear hS hbn hgn; have hS := hS1; clear hS1))
  rename World => w1
  have hl := hS.lt 0 rfl
  refine (HK.out w1 hS.below).mono ?_
  rintro e w2 ⟨y, rfl, hy, hb2⟩
  have hS2 := hS.step hb2
  clear hS
  go_wp2_with (first | go_skip | ((with_reducible refine gate_op (op := .store 27 (.tmp 2) (.tmp 5)) rfl ?_); refine wpList_store_row rfl 27 (.tmp 2) (.tmp 5) rfl _ y.c rfl rfl 27 _ (hS2.at_ 0 rfl) (VT.val_info _) rfl (VT.c_one _) ?_; intro wn hbn hgn hon hsn))
  exact bodyPost_ret (v := .agg y.c) (results_cell_row rfl _ _ _ _ _ _ _ rfl hgn Tryz.underlying27 rfl (VT.val_info _)) rfl ⟨y, rfl, (hy.put hl hon hsn).low (Nat.le_of_lt hl), hS2.below.trans (hbn.mono (Nat.le_refl _))⟩
end Go.Proofs.YtcpmehppfccihaaGreatDoor
