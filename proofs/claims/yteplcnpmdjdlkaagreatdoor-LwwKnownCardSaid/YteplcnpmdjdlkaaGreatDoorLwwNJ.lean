/-
  LwwKnown, walked: true. Condition: the library's variables as it lays them.
-/
import Derived.Test.YteplcnpmdjdlkaaGreatDoorLwwWJ
namespace Go.Proofs.YteplcnpmdjdlkaaGreatDoor
open Go.RowKit Go.Sort
set_option linter.unusedVariables false
set_option linter.unusedSimpArgs false
abbrev kK : ByteArray := ⟨#[107]⟩
abbrev wD : WordV := ⟨2, 5, kK, false, 1⟩
abbrev wE : WordV := ⟨1, 5, kK, true, 0⟩
abbrev wF : WordV := ⟨3, 5, kK, true, 0⟩
theorem wD_ok : wD.Ok := ⟨⟨by decide, by decide⟩, ⟨by decide, by decide⟩, ⟨by decide, by decide⟩, by show (1 : Nat) ≤ _; decide⟩
theorem wE_ok : wE.Ok := ⟨⟨by decide, by decide⟩, ⟨by decide, by decide⟩, ⟨by decide, by decide⟩, by show (1 : Nat) ≤ _; decide⟩
theorem wF_ok : wF.Ok := ⟨⟨by decide, by decide⟩, ⟨by decide, by decide⟩, ⟨by decide, by decide⟩, by show (1 : Nat) ≤ _; decide⟩
theorem wF_good : wF.op.good = true := by kernel_rfl
theorem accD : accB wD.op [] = true := by kernel_rfl
structure Dw (y : OT) : Prop where
  ok : OT.Ok y
  same : OT.Same wD.op y
theorem Dw.old {y : OT} (h : Dw y) : afterB wE.op.o y.o = false := by unfold afterB; rw [← h.same.T, ← h.same.R]; decide
theorem Dw.over {y : OT} (h : Dw y) : afterB wF.op.o y.o = true := by unfold afterB; rw [← h.same.T, ← h.same.R]; decide
def lK (y : OT) : Wd := [(kK, y)]
theorem kK_sz : KSz kK := by show (1 : Nat) ≤ _; decide
theorem apply_D (p b : Nat) (w : World) (hw : Vars w) (hp : w.heap[p]? = some (headO b)) (hb : w.heap[b]? = some (wordsO [])) :
    Calls Tryz.prog 9 #[.pointer (some ⟨p, 0, none⟩), opv wD.op.o] w fun e w' => ∃ y, e = .returned (.bool true) ∧ Dw y ∧ w'.heap[b]? = some (wordsO (lK y)) ∧ But b w w' :=
  (lApply_any wD.op [] p b w hw ((WordV.op_ok wD_ok).opin _) WdOk.nil hp hb).mono fun e w' ⟨r, l2, he, ha, hm, hbut⟩ => by
    obtain ⟨rfl, y, hy, hs, rfl⟩ := app_one ha accD
    exact ⟨y, he, ⟨hy, hs⟩, hm, hbut⟩
theorem apply_E (y : OT) (p b : Nat) (w : World) (hy : Dw y) (hw : Vars w) (hp : w.heap[p]? = some (headO b)) (hb : w.heap[b]? = some (wordsO (lK y))) :
    Calls Tryz.prog 9 #[.pointer (some ⟨p, 0, none⟩), opv wE.op.o] w fun e w' => e = .returned (.bool false) ∧ w'.heap[b]? = some (wordsO (lK y)) ∧ But b w w' :=
  (lApply_any wE.op (lK y) p b w hw ((WordV.op_ok wE_ok).opin _) (one_ok kK_sz hy.ok) hp hb).mono fun e w' ⟨r, l2, he, ha, hm, hbut⟩ => by
    obtain ⟨rfl, rfl⟩ := app_old (x := wE.op) ha hy.old
    exact ⟨he, hm, hbut⟩
theorem apply_F (y : OT) (p b : Nat) (w : World) (hy : Dw y) (hw : Vars w) (hp : w.heap[p]? = some (headO b)) (hb : w.heap[b]? = some (wordsO (lK y))) :
    Calls Tryz.prog 9 #[.pointer (some ⟨p, 0, none⟩), opv wF.op.o] w fun e w' => ∃ z, e = .returned (.bool true) ∧ OT.Ok z ∧ (z.o.K == 1) = false ∧ w'.heap[b]? = some (wordsO (lK z)) ∧ But b w w' :=
  (lApply_any wF.op (lK y) p b w hw ((WordV.op_ok wF_ok).opin _) (one_ok kK_sz hy.ok) hp hb).mono fun e w' ⟨r, l2, he, ha, hm, hbut⟩ => by
    obtain ⟨rfl, z, hz, hs, rfl⟩ := app_over (x := wF.op) ha rfl wF_good hy.over
    exact ⟨z, he, hz, by rw [← hs.K]; rfl, hm, hbut⟩
theorem apply_Z (z : OT) (p b : Nat) (w : World) (hz : OT.Ok z) (hw : Vars w) (hp : w.heap[p]? = some (headO b)) (hb : w.heap[b]? = some (wordsO (lK z))) :
    Calls Tryz.prog 9 #[.pointer (some ⟨p, 0, none⟩), opv zeroO] w fun e w' => e = .returned (.bool false) ∧ w'.heap[b]? = some (wordsO (lK z)) ∧ But b w w' :=
  (lApply_any zOT (lK z) p b w hw (zOT_ok.opin _) (one_ok kK_sz hz) hp hb).mono fun e w' ⟨r, l2, he, ha, hm, hbut⟩ => by
    obtain ⟨h1, h2⟩ := ha
    have hacc : accB zOT (lK z) = false := rfl
    rw [hacc] at h1 h2
    obtain rfl := h1
    obtain rfl := h2
    exact ⟨he, hm, hbut⟩
theorem get_K (z : OT) (p b : Nat) (w : World) (hz : OT.Ok z) (hk : (z.o.K == 1) = false) (hp : w.heap[p]? = some (headO b)) (hb : w.heap[b]? = some (wordsO (lK z))) :
    Calls Tryz.prog 11 #[.pointer (some ⟨p, 0, none⟩), .string kK] w fun e w' => e = .returned (.tuple #[opv zeroO, .bool false]) ∧ Below w.heap.size w w' :=
  get_off (lK z) kK p b w kK_sz (one_ok kK_sz hz) hp hb z (by simp [lK, assoc]) (by rw [bne, hk]; rfl)
theorem len_K (z : OT) (p b : Nat) (w : World) (hz : OT.Ok z) (hk : (z.o.K == 1) = false) (hp : w.heap[p]? = some (headO b)) (hb : w.heap[b]? = some (wordsO (lK z))) :
    Calls Tryz.prog 12 #[.pointer (some ⟨p, 0, none⟩)] w fun e w' => e = .returned (.int .i64 0) ∧ Below w.heap.size w w' := by
  have h := lLen_any (lK z) p b w (one_ok kK_sz hz) (by show (1 : Nat) ≤ _; decide) hp hb
  unfold lK at h
  rw [keysW_one, hk] at h
  exact h
theorem keys_K (z : OT) (p b : Nat) (w : World) (hz : OT.Ok z) (hk : (z.o.K == 1) = false) (hp : w.heap[p]? = some (headO b)) (hb : w.heap[b]? = some (wordsO (lK z))) :
    Calls Tryz.prog 13 #[.pointer (some ⟨p, 0, none⟩)] w fun e w' => ∃ A c, e = .returned (.slice A 0 c) ∧ Below w.heap.size w w' :=
  (lKeys_any (lK z) p b w (one_ok kK_sz hz) (by show (1 : Nat) ≤ _; decide) hp hb).mono fun e w' ⟨v, he, hrow, hbel⟩ => by
    unfold lK at hrow
    rw [keysW_one, hk] at hrow
    obtain ⟨A, g, c, rfl, _⟩ := row_slice hrow
    exact ⟨A, c, he, hbel⟩
set_option maxRecDepth 100000 in
set_option maxHeartbeats 2000000 in
theorem lwwKnown_walk (w : World) (hw : Vars w) : Calls Tryz.prog 3 #[] w fun e w' => e = .returned (.bool true) ∧ Below w.heap.size w w' := by
  have HV := Lib.hid hw
  have b1 := Lib.hid (fun W => word_mk 2 5 kK false 1 W)
  have b2 := Lib.hid (fun W => word_mk 1 5 kK true 0 W)
  have b3 := Lib.hid (fun W => word_mk 3 5 kK true 0 W)
  have b4 := op_build0
  have hS := Boxes.start w
  clear hw
  go_enter Tryz.func3, Tryz.ntmps3
  go_upto_region 8 with (first | ((with_reducible refine gate_op (op := .build 39 #[(0, .const (.int .i64 2)), (1, .const (.int .i64 5)), (2, .const (.string ⟨#[107]⟩)), (3, .const (.bool false)), (4, .const (.int .i64 1))]) rfl ?_); refine build_arm rfl 39 #[(0, .const (.int .i64 2)), (1, .const (.int .i64 5)), (2, .const (.string ⟨#[107]⟩)), (3, .const (.bool false)), (4, .const (.int .i64 1))] rfl #[(0, .int .i64 2), (1, .int .i64 5), (2, .string kK), (3, .bool false), (4, .int .i64 1)] (by simp only [List.map_toArray, List.map_cons, List.map_nil]; rfl) _ (b1.out _) ?_) | ((with_reducible refine gate_op (op := .build 39 #[(0, .const (.int .i64 1)), (1, .const (.int .i64 5)), (2, .const (.string ⟨#[107]⟩)), (3, .const (.bool true)), (4, .const (.int .i64 0))]) rfl ?_); refine build_arm rfl 39 #[(0, .const (.int .i64 1)), (1, .const (.int .i64 5)), (2, .const (.string ⟨#[107]⟩)), (3, .const (.bool true)), (4, .const (.int .i64 0))] rfl #[(0, .int .i64 1), (1, .int .i64 5), (2, .string kK), (3, .bool true), (4, .int .i64 0)] (by simp only [List.map_toArray, List.map_cons, List.map_nil]; rfl) _ (b2.out _) ?_) | ((with_reducible refine gate_op (op := .build 39 #[(0, .const (.int .i64 3)), (1, .const (.int .i64 5)), (2, .const (.string ⟨#[107]⟩)), (3, .const (.bool true)), (4, .const (.int .i64 0))]) rfl ?_); refine build_arm rfl 39 #[(0, .const (.int .i64 3)), (1, .const (.int .i64 5)), (2, .const (.string ⟨#[107]⟩)), (3, .const (.bool true)), (4, .const (.int .i64 0))] rfl #[(0, .int .i64 3), (1, .int .i64 5), (2, .string kK), (3, .bool true), (4, .int .i64 0)] (by simp only [List.map_toArray, List.map_cons, List.map_nil]; rfl) _ (b3.out _) ?_) | go_skip | (go_at_call 7; refine (awake22_any _ (HV.out.step hS.below)).mono ?_; rintro e wn ⟨rfl, hbn⟩; have hS1 := hS.step hbn; clear hS hbn; have hS := hS1; clear hS1) | (go_at_call 8; (with_reducible (refine (lNew_any _).mono ?_)); rintro e wn ⟨p, b, rfl, hbx⟩; have hS1 := hS.app hbx; simp only [List.nil_append] at hS1; clear hS hbx; have hS := hS1; clear hS1) | (go_at_call 10; (with_reducible (refine (wOp_any ⟨2, 5, kK, false, 1⟩ _).mono ?_)); rintro e wn ⟨rfl, hbn⟩; have hS1 := hS.step hbn; clear hS hbn; have hS := hS1; clear hS1) | (go_at_call 10; (with_reducible (refine (wOp_any ⟨1, 5, kK, true, 0⟩ _).mono ?_)); rintro e wn ⟨rfl, hbn⟩; have hS1 := hS.step hbn; clear hS hbn; have hS := hS1; clear hS1) | (go_at_call 10; (with_reducible (refine (wOp_any ⟨3, 5, kK, true, 0⟩ _).mono ?_)); rintro e wn ⟨rfl, hbn⟩; have hS1 := hS.step hbn; clear hS hbn; have hS := hS1; clear hS1) | (go_at_call 9; have q0 := hS.at_ 0 rfl; have q1 := hS.at_ 1 rfl; with_reducible (refine (apply_D p b _ (HV.out.step hS.below) q1 q0).mono ?_); clear q0 q1; rintro e wn ⟨y, rfl, hy, hgn, hbut⟩; have hS1 := hS.turn 0 rfl hbut hgn; clear hS hgn hbut; simp only [List.set_cons_zero, List.set_cons_succ] at hS1; have hS := hS1; clear hS1; have HY := Lib.hid hy; clear hy) | (go_at_call 9; have q0 := hS.at_ 0 rfl; have q1 := hS.at_ 1 rfl; with_reducible (refine (apply_E y p b _ HY.out (HV.out.step hS.below) q1 q0).mono ?_); clear q0 q1; rintro e wn ⟨rfl, hgn, hbut⟩; have hS1 := hS.turn 0 rfl hbut hgn; clear hS hgn hbut; simp only [List.set_cons_zero, List.set_cons_succ] at hS1; have hS := hS1; clear hS1) | (go_at_call 9; have q0 := hS.at_ 0 rfl; have q1 := hS.at_ 1 rfl; with_reducible (refine (apply_F y p b _ HY.out (HV.out.step hS.below) q1 q0).mono ?_); clear q0 q1; rintro e wn ⟨q, rfl, hq, hqk, hgn, hbut⟩; have hS1 := hS.turn 0 rfl hbut hgn; clear hS hgn hbut; simp only [List.set_cons_zero, List.set_cons_succ] at hS1; have hS := hS1; clear hS1; have HQ := Lib.hid (And.intro hq hqk); clear hq hqk) | (go_at_call 11; have q0 := hS.at_ 0 rfl; have q1 := hS.at_ 1 rfl; with_reducible (refine (get_K q p b _ HQ.out.1 HQ.out.2 q1 q0).mono ?_); clear q0 q1; rintro e wn ⟨rfl, hbn⟩; have hS1 := hS.step hbn; clear hS hbn; have hS := hS1; clear hS1) | ((with_reducible refine gate_op (op := .alloc 36) rfl ?_); refine alloc_arm rfl 36 rfl (op_alloc _) ?_; intro wn hbn hgn; have hS1 := hS.new hbn hgn; (try simp only [List.nil_append, List.cons_append, List.set_cons_zero, List.set_cons_succ] at hS1); clear hS hbn hgn; have hS := hS1; clear hS1) | (((with_reducible refine gate_op (op := .store 36 (.tmp 5) (.tmp 25)) rfl ?_); refine wpList_store_row rfl 36 (.tmp 5) (.tmp 25) rfl _ zeroO.c rfl rfl 36 _ (hS.at_ 2 rfl) (op_info _ rfl) rfl (op_one rfl rfl) ?_; intro wn hbn hgn hon hsn; have hS1 := hS.put 2 rfl hon hbn hgn; (try simp only [List.nil_append, List.cons_append, List.set_cons_zero, List.set_cons_succ] at hS1); clear hS hbn hgn hon hsn; have hS := hS1; clear hS1)))
  go_wp2_with (first | ((with_reducible refine gate_op (op := .build 36 #[]) rfl ?_); refine build_arm rfl 36 #[] rfl #[] (by simp only [List.map_toArray, List.map_cons, List.map_nil]; rfl) _ (b4 _) ?_) | go_skip | (go_at_call 9; rw [zero_cells]; have q0 := hS.at_ 0 rfl; have q1 := hS.at_ 1 rfl; with_reducible (refine (apply_Z q p b _ HQ.out.1 (HV.out.step hS.below) q1 q0).mono ?_); clear q0 q1; rintro e wn ⟨rfl, hgn, hbut⟩; have hS1 := hS.turn 0 rfl hbut hgn; clear hS hgn hbut; simp only [List.set_cons_zero, List.set_cons_succ] at hS1; have hS := hS1; clear hS1) | (go_at_call 12; have q0 := hS.at_ 0 rfl; have q1 := hS.at_ 1 rfl; with_reducible (refine (len_K q p b _ HQ.out.1 HQ.out.2 q1 q0).mono ?_); clear q0 q1; rintro e wn ⟨rfl, hbn⟩; have hS1 := hS.step hbn; clear hS hbn; have hS := hS1; clear hS1) | (go_at_call 13; have q0 := hS.at_ 0 rfl; have q1 := hS.at_ 1 rfl; with_reducible (refine (keys_K q p b _ HQ.out.1 HQ.out.2 q1 q0).mono ?_); clear q0 q1; rintro e wn ⟨A, c, rfl, hbn⟩; have hS1 := hS.step hbn; clear hS hbn; have hS := hS1; clear hS1))
  go_ret
  exact ⟨rfl, hS.below⟩
end Go.Proofs.YteplcnpmdjdlkaaGreatDoor
