/-
  lww.Map.Apply: all ways joined. Condition: the library's variables as it lays them.
  lww.Map.Get, walked. No condition.
-/
import Derived.Test.YtffcpmohanhihaaGreatDoorLwwAJ
namespace Go.Proofs.YtffcpmohanhihaaGreatDoor
open Go.RowKit
set_option linter.unusedVariables false
theorem lApply_any (x : OT) (l : Wd) (p b : Nat) (w : World) (hw : Vars w) (hx : OpIn w x.o x.t) (hl : WdOk l) (hp : w.heap[p]? = some (headO b)) (hb : w.heap[b]? = some (wordsO l)) :
    Calls Tryz.prog 46 #[.pointer (some ⟨p, 0, none⟩), opv x.o] w fun e w' => ∃ r l2, e = .returned (.bool r) ∧ Applied x l r l2 ∧ w'.heap[b]? = some (wordsO l2) ∧ But b w w' := by
  have keep : ∀ {w' : World}, Below w.heap.size w w' → w'.heap[b]? = some (wordsO l) := fun h => (h.block b (Array.getElem?_eq_some_iff.1 hb).1).trans hb
  have no : accB x l = false → Calls Tryz.prog 46 #[.pointer (some ⟨p, 0, none⟩), opv x.o] w (fun e w' => e = .returned (.bool false) ∧ Below w.heap.size w w') → Calls Tryz.prog 46 #[.pointer (some ⟨p, 0, none⟩), opv x.o] w fun e w' => ∃ r l2, e = .returned (.bool r) ∧ Applied x l r l2 ∧ w'.heap[b]? = some (wordsO l2) ∧ But b w w' := fun ha h => h.mono fun e w' ⟨he, hbw⟩ => ⟨false, l, he, ⟨ha.symm, by rw [ha]; rfl⟩, keep hbw, .of_below hbw⟩
  have yes : accB x l = true → Calls Tryz.prog 46 #[.pointer (some ⟨p, 0, none⟩), opv x.o] w (fun e w' => ∃ y : OT, e = .returned (.bool true) ∧ OT.Ok y ∧ OT.Same x y ∧ w'.heap[b]? = some (wordsO (assocPut l x.o.key y)) ∧ But b w w') → Calls Tryz.prog 46 #[.pointer (some ⟨p, 0, none⟩), opv x.o] w fun e w' => ∃ r l2, e = .returned (.bool r) ∧ Applied x l r l2 ∧ w'.heap[b]? = some (wordsO l2) ∧ But b w w' := fun ha h => h.mono fun e w' ⟨y, he, hy, hs, hm, hbw⟩ => ⟨true, _, he, ⟨ha.symm, by rw [ha]; exact ⟨y, hy, hs, rfl⟩⟩, hm, hbw⟩
  cases hk1 : (x.o.K == 1)
  · have h1 : (x.o.K != 1) = true := by rw [bne, hk1]; rfl
    cases hk2 : (x.o.K == 2)
    · have h2 : (x.o.K != 2) = true := by rw [bne, hk2]; rfl
      exact no (by unfold accB; rw [hk1, hk2]; rfl) (apply_kind x p w hw hx h1 h2)
    · have h2 : (x.o.K != 2) = false := by rw [bne, hk2]; rfl
      cases hg : x.good
      · exact no (by unfold accB; rw [hk1, hk2, hg]; rfl) (apply_bad2 x p w hw hx h1 h2 hg)
      · cases ha : assoc l x.o.key with
        | none => exact yes (by unfold accB; rw [hk1, hk2, hg, ha]; rfl) (apply_new2 x l p b w hw hx hl hp hb h1 h2 hg ha)
        | some y =>
          cases hf : afterB x.o y.o
          · exact no (by unfold accB; rw [hk1, hk2, hg, ha]; simpa using hf) (apply_old2 x l p b w hw hx hl hp hb y h1 h2 hg ha (hl.at_ ha) hf)
          · exact yes (by unfold accB; rw [hk1, hk2, hg, ha]; simpa using hf) (apply_put2 x l p b w hw hx hl hp hb y h1 h2 hg ha (hl.at_ ha) hf)
  · have h1 : (x.o.K != 1) = false := by rw [bne, hk1]; rfl
    cases hg : x.good
    · exact no (by unfold accB; rw [hk1, hg]; rfl) (apply_bad1 x p w hw hx h1 hg)
    · cases ha : assoc l x.o.key with
      | none => exact yes (by unfold accB; rw [hk1, hg, ha]; rfl) (apply_new1 x l p b w hw hx hl hp hb h1 hg ha)
      | some y =>
        cases hf : afterB x.o y.o
        · exact no (by unfold accB; rw [hk1, hg, ha]; simpa using hf) (apply_old1 x l p b w hw hx hl hp hb y h1 hg ha (hl.at_ ha) hf)
        · exact yes (by unfold accB; rw [hk1, hg, ha]; simpa using hf) (apply_put1 x l p b w hw hx hl hp hb y h1 hg ha (hl.at_ ha) hf)
end Go.Proofs.YtffcpmohanhihaaGreatDoor
namespace Go.Proofs.YtffcpmohanhihaaGreatDoor
open Go.RowKit
set_option linter.unusedVariables false
set_option linter.unusedSimpArgs false
set_option linter.unusedSectionVars false
/-- A key's word, if it is set. -/
def getW (l : Wd) (k : ByteArray) : Option OT := match assoc l k with
  | some y => if y.o.K == 1 then some y else none
  | none => none
theorem op_build0 (W : World) : (Instr.build 40 #[]).run Tryz.prog W = .ok (.agg zeroO.c) W := by kernel_rfl
theorem oCopy_op (x : OT) (w : World) (hx : OT.Ok x) : Calls Tryz.prog 30 #[opv x.o] w fun e w' => ∃ y : OT, e = .returned (opv y.o) ∧ OT.Ok y ∧ OT.Same x y ∧ Below w.heap.size w w' := oCopy_any x w hx
section
variable (l : Wd) (key : ByteArray) (p b : Nat) (w : World) (hk : KSz key) (hl : WdOk l) (hp : w.heap[p]? = some (headO b)) (hb : w.heap[b]? = some (wordsO l))
include hk hl hp hb
set_option maxRecDepth 100000 in
set_option maxHeartbeats 1000000 in
theorem get_none (ha : assoc l key = none) : Calls Tryz.prog 63 #[.pointer (some ⟨p, 0, none⟩), .string key] w fun e w' => e = .returned (.tuple #[opv zeroO, .bool false]) ∧ Below w.heap.size w w' := by
  have HL := Lib.hid hl
  have HK := Lib.hid hk
  have HP := Lib.hid hp
  have HB := Lib.hid hb
  have HA := Lib.hid ha
  have hpl : Hid (p < w.heap.size) := Lib.hid (Array.getElem?_eq_some_iff.1 hp).1
  have hbl : Hid (b < w.heap.size) := Lib.hid (Array.getElem?_eq_some_iff.1 hb).1
  have hb0 := op_build0
  have hS := Boxes.start w
  clear hl hk hp hb ha
  go_enter Tryz.func63, Tryz.ntmps63
  go_wp2_with (first | go_skip | ((with_reducible refine gate_op (op := .alloc 40) rfl ?_); refine alloc_arm rfl 40 rfl (op_alloc _) ?_; intro wn hbn hgn; have hS1 := hS.new hbn hgn; (try simp only [List.nil_append, List.cons_append, List.set_cons_zero, List.set_cons_succ] at hS1); clear hS hbn hgn; have hS := hS1; clear hS1) | ((with_reducible refine gate_op (op := .load 118 (.tmp 11)) rfl ?_); refine load_elem rfl 118 (.tmp 11) rfl _ _ rfl 120 _ (0, 0) _ _ ((hS.below.block p hpl.out).trans HP.out) rfl Tryz.underlying118 rfl ?_) | ((with_reducible refine gate_op (op := .lookup 118 (.tmp 12) (.tmp 13) true) rfl ?_); refine look_arm rfl (.tmp 12) (.tmp 13) true rfl str_key mapt_under HL.out.keys HK.out rfl rfl ((hS.below.block b hbl.out).trans HB.out) (op_zero _) (look_word HA.out) ?_) | ((with_reducible refine gate_op (op := .store 40 (.tmp 6) (.tmp 15)) rfl ?_); refine wpList_store_row rfl 40 (.tmp 6) (.tmp 15) rfl _ zeroO.c rfl rfl 40 _ (hS.at_ 1 rfl) (op_info _ rfl) rfl (op_one rfl rfl) ?_; intro wn hbn hgn hon hsn; have hS1 := hS.put 1 rfl hon hbn hgn; (try simp only [List.nil_append, List.cons_append, List.set_cons_zero, List.set_cons_succ] at hS1); clear hS hbn hgn hon hsn; have hS := hS1; clear hS1) | ((with_reducible refine gate_op (op := .store 40 (.tmp 4) (.tmp 24)) rfl ?_); refine wpList_store_row rfl 40 (.tmp 4) (.tmp 24) rfl _ zeroO.c rfl rfl 40 _ (hS.at_ 0 rfl) (op_info _ rfl) rfl (op_one rfl rfl) ?_; intro wn hbn hgn hon hsn; have hS1 := hS.put 0 rfl hon hbn hgn; (try simp only [List.nil_append, List.cons_append, List.set_cons_zero, List.set_cons_succ] at hS1); clear hS hbn hgn hon hsn; have hS := hS1; clear hS1))
  exact bodyPost_ret (v := .tuple #[opv zeroO, .bool false]) (results_row_tmp rfl _ _ _ _ _ _ _ _ rfl rfl (hS.at_ 0 rfl) Tryz.underlying40 rfl (op_info _ rfl)) rfl
    ⟨rfl, hS.below⟩
set_option maxRecDepth 100000 in
set_option maxHeartbeats 1000000 in
theorem get_off (y : OT) (ha : assoc l key = some y) (hq : (y.o.K != 1) = true) : Calls Tryz.prog 63 #[.pointer (some ⟨p, 0, none⟩), .string key] w fun e w' => e = .returned (.tuple #[opv zeroO, .bool false]) ∧ Below w.heap.size w w' := by
  have hy := hl.at_ ha
  have HY := Lib.hid hy
  have hys := hy.seen
  clear hy
  have HL := Lib.hid hl
  have HK := Lib.hid hk
  have HP := Lib.hid hp
  have HB := Lib.hid hb
  have HA := Lib.hid ha
  have hpl : Hid (p < w.heap.size) := Lib.hid (Array.getElem?_eq_some_iff.1 hp).1
  have hbl : Hid (b < w.heap.size) := Lib.hid (Array.getElem?_eq_some_iff.1 hb).1
  have hb0 := op_build0
  have hS := Boxes.start w
  clear hl hk hp hb ha
  go_enter Tryz.func63, Tryz.ntmps63
  go_wp2_with (first | go_skip | ((with_reducible refine gate_op (op := .alloc 40) rfl ?_); refine alloc_arm rfl 40 rfl (op_alloc _) ?_; intro wn hbn hgn; have hS1 := hS.new hbn hgn; (try simp only [List.nil_append, List.cons_append, List.set_cons_zero, List.set_cons_succ] at hS1); clear hS hbn hgn; have hS := hS1; clear hS1) | ((with_reducible refine gate_op (op := .load 118 (.tmp 11)) rfl ?_); refine load_elem rfl 118 (.tmp 11) rfl _ _ rfl 120 _ (0, 0) _ _ ((hS.below.block p hpl.out).trans HP.out) rfl Tryz.underlying118 rfl ?_) | ((with_reducible refine gate_op (op := .lookup 118 (.tmp 12) (.tmp 13) true) rfl ?_); refine look_arm rfl (.tmp 12) (.tmp 13) true rfl str_key mapt_under HL.out.keys HK.out rfl rfl ((hS.below.block b hbl.out).trans HB.out) (op_zero _) (look_word HA.out) ?_) | (((with_reducible refine gate_op (op := .store 40 (.tmp 6) (.tmp 15)) rfl ?_); refine wpList_store_row rfl 40 (.tmp 6) (.tmp 15) rfl _ y.o.c rfl rfl 40 _ (hS.at_ 1 rfl) (op_info _ hys) ((OpV.size (o := zeroO) rfl).trans (OpV.size (o := y.o) hys).symm) (ot_one HY.out.vc) ?_; intro wn hbn hgn hon hsn; have hS1 := hS.put 1 rfl hon hbn hgn; (try simp only [List.nil_append, List.cons_append, List.set_cons_zero, List.set_cons_succ] at hS1); clear hS hbn hgn hon hsn; have hS := hS1; clear hS1); have x67 := (cell_of_row _ _ 67 _ _ _ (hS.at_ 1 rfl)).trans (OpV.g67 hys)) | ((with_reducible refine gate_op (op := .store 40 (.tmp 4) (.tmp 24)) rfl ?_); refine wpList_store_row rfl 40 (.tmp 4) (.tmp 24) rfl _ zeroO.c rfl rfl 40 _ (hS.at_ 0 rfl) (op_info _ rfl) rfl (op_one rfl rfl) ?_; intro wn hbn hgn hon hsn; have hS1 := hS.put 0 rfl hon hbn hgn; (try simp only [List.nil_append, List.cons_append, List.set_cons_zero, List.set_cons_succ] at hS1); clear hS hbn hgn hon hsn; have hS := hS1; clear hS1))
  exact bodyPost_ret (v := .tuple #[opv zeroO, .bool false]) (results_row_tmp rfl _ _ _ _ _ _ _ _ rfl rfl (hS.at_ 0 rfl) Tryz.underlying40 rfl (op_info _ rfl)) rfl
    ⟨rfl, hS.below⟩
set_option maxRecDepth 100000 in
set_option maxHeartbeats 1000000 in
theorem get_on (y : OT) (ha : assoc l key = some y) (hq : (y.o.K != 1) = false) : Calls Tryz.prog 63 #[.pointer (some ⟨p, 0, none⟩), .string key] w fun e w' => ∃ z : OT, e = .returned (.tuple #[opv z.o, .bool true]) ∧ OT.Ok z ∧ OT.Same y z ∧ Below w.heap.size w w' := by
  have hy := hl.at_ ha
  have HY := Lib.hid hy
  have hys := hy.seen
  clear hy
  have HL := Lib.hid hl
  have HK := Lib.hid hk
  have HP := Lib.hid hp
  have HB := Lib.hid hb
  have HA := Lib.hid ha
  have hpl : Hid (p < w.heap.size) := Lib.hid (Array.getElem?_eq_some_iff.1 hp).1
  have hbl : Hid (b < w.heap.size) := Lib.hid (Array.getElem?_eq_some_iff.1 hb).1
  have hb0 := op_build0
  have hS := Boxes.start w
  clear hl hk hp hb ha
  go_enter Tryz.func63, Tryz.ntmps63
  go_wp2_with (first | go_skip | ((with_reducible refine gate_op (op := .alloc 40) rfl ?_); refine alloc_arm rfl 40 rfl (op_alloc _) ?_; intro wn hbn hgn; have hS1 := hS.new hbn hgn; (try simp only [List.nil_append, List.cons_append, List.set_cons_zero, List.set_cons_succ] at hS1); clear hS hbn hgn; have hS := hS1; clear hS1) | ((with_reducible refine gate_op (op := .load 118 (.tmp 11)) rfl ?_); refine load_elem rfl 118 (.tmp 11) rfl _ _ rfl 120 _ (0, 0) _ _ ((hS.below.block p hpl.out).trans HP.out) rfl Tryz.underlying118 rfl ?_) | ((with_reducible refine gate_op (op := .lookup 118 (.tmp 12) (.tmp 13) true) rfl ?_); refine look_arm rfl (.tmp 12) (.tmp 13) true rfl str_key mapt_under HL.out.keys HK.out rfl rfl ((hS.below.block b hbl.out).trans HB.out) (op_zero _) (look_word HA.out) ?_) | (((with_reducible refine gate_op (op := .store 40 (.tmp 6) (.tmp 15)) rfl ?_); refine wpList_store_row rfl 40 (.tmp 6) (.tmp 15) rfl _ y.o.c rfl rfl 40 _ (hS.at_ 1 rfl) (op_info _ hys) ((OpV.size (o := zeroO) rfl).trans (OpV.size (o := y.o) hys).symm) (ot_one HY.out.vc) ?_; intro wn hbn hgn hon hsn; have hS1 := hS.put 1 rfl hon hbn hgn; (try simp only [List.nil_append, List.cons_append, List.set_cons_zero, List.set_cons_succ] at hS1); clear hS hbn hgn hon hsn; have hS := hS1; clear hS1); have x67 := (cell_of_row _ _ 67 _ _ _ (hS.at_ 1 rfl)).trans (OpV.g67 hys)) | ((with_reducible refine gate_op (op := .load 40 (.tmp 6)) rfl ?_); refine wpList_load_row' rfl 40 (.tmp 6) rfl _ rfl 40 _ (0, 0) _ (hS.at_ 1 rfl) Tryz.underlying40 rfl (op_info _ hys) ?_) | (go_at_call 30; (with_reducible (refine (oCopy_op y _ HY.out).mono ?_)); rintro e wn ⟨z, rfl, hz, hsz, hbn⟩; have hS1 := hS.step hbn; clear hS hbn x67; have hS := hS1; clear hS1; have HZ := Lib.hid (And.intro hz hsz); have hzs := hz.seen; clear hz hsz) | ((with_reducible refine gate_op (op := .store 40 (.tmp 4) (.tmp 26)) rfl ?_); refine wpList_store_row rfl 40 (.tmp 4) (.tmp 26) rfl _ z.o.c rfl rfl 40 _ (hS.at_ 0 rfl) (op_info _ hzs) ((OpV.size (o := zeroO) rfl).trans (OpV.size (o := z.o) hzs).symm) (ot_one HZ.out.1.vc) ?_; intro wn hbn hgn hon hsn; have hS1 := hS.put 0 rfl hon hbn hgn; (try simp only [List.nil_append, List.cons_append, List.set_cons_zero, List.set_cons_succ] at hS1); clear hS hbn hgn hon hsn; have hS := hS1; clear hS1))
  exact bodyPost_ret (v := .tuple #[opv z.o, .bool true]) (results_row_tmp rfl _ _ _ _ _ _ _ _ rfl rfl (hS.at_ 0 rfl) Tryz.underlying40 rfl (op_info _ hzs)) rfl
    ⟨z, rfl, HZ.out.1, HZ.out.2, hS.below⟩
theorem lGet_any : Calls Tryz.prog 63 #[.pointer (some ⟨p, 0, none⟩), .string key] w fun e w' => ∃ z : OT, e = .returned (.tuple #[opv z.o, .bool (getW l key).isSome]) ∧ OT.Ok z ∧ (match getW l key with
    | some y => OT.Same y z
    | none => z = zOT) ∧ Below w.heap.size w w' := by
  cases ha : assoc l key with
  | none =>
    have e : getW l key = none := by unfold getW; rw [ha]
    rw [e]
    exact (get_none l key p b w hk hl hp hb ha).mono fun e w' ⟨he, hb⟩ => ⟨zOT, he, zOT_ok, rfl, hb⟩
  | some y =>
    cases hq : (y.o.K == 1)
    · have e : getW l key = none := by unfold getW; rw [ha]; simp only [hq]; rfl
      rw [e]
      exact (get_off l key p b w hk hl hp hb y ha (by rw [bne, hq]; rfl)).mono fun e w' ⟨he, hb⟩ => ⟨zOT, he, zOT_ok, rfl, hb⟩
    · have e : getW l key = some y := by unfold getW; rw [ha]; simp only [hq]; rfl
      rw [e]
      exact (get_on l key p b w hk hl hp hb y ha (by rw [bne, hq]; rfl)).mono fun e w' ⟨z, he, hz, hs, hb⟩ => ⟨z, he, hz, hs, hb⟩
end
end Go.Proofs.YtffcpmohanhihaaGreatDoor
