/-
  lww.Map.Apply: all ways joined. Condition: the library's variables as it lays them.
  lww.Map.Get, walked. No condition.
  lww.Map.Keys, Len, Copy, walked. Condition: at most a million words.
-/
import Derived.Test.YteplcnpmdjdlkaaGreatDoorLwwAJ
namespace Go.Proofs.YteplcnpmdjdlkaaGreatDoor
open Go.RowKit
set_option linter.unusedVariables false
theorem lApply_any (x : OT) (l : Wd) (p b : Nat) (w : World) (hw : Vars w) (hx : OpIn w x.o x.t) (hl : WdOk l) (hp : w.heap[p]? = some (headO b)) (hb : w.heap[b]? = some (wordsO l)) :
    Calls Tryz.prog 9 #[.pointer (some ⟨p, 0, none⟩), opv x.o] w fun e w' => ∃ r l2, e = .returned (.bool r) ∧ Applied x l r l2 ∧ w'.heap[b]? = some (wordsO l2) ∧ But b w w' := by
  have keep : ∀ {w' : World}, Below w.heap.size w w' → w'.heap[b]? = some (wordsO l) := fun h => (h.block b (Array.getElem?_eq_some_iff.1 hb).1).trans hb
  have no : accB x l = false → Calls Tryz.prog 9 #[.pointer (some ⟨p, 0, none⟩), opv x.o] w (fun e w' => e = .returned (.bool false) ∧ Below w.heap.size w w') → Calls Tryz.prog 9 #[.pointer (some ⟨p, 0, none⟩), opv x.o] w fun e w' => ∃ r l2, e = .returned (.bool r) ∧ Applied x l r l2 ∧ w'.heap[b]? = some (wordsO l2) ∧ But b w w' := fun ha h => h.mono fun e w' ⟨he, hbw⟩ => ⟨false, l, he, ⟨ha.symm, by rw [ha]; rfl⟩, keep hbw, .of_below hbw⟩
  have yes : accB x l = true → Calls Tryz.prog 9 #[.pointer (some ⟨p, 0, none⟩), opv x.o] w (fun e w' => ∃ y : OT, e = .returned (.bool true) ∧ OT.Ok y ∧ OT.Same x y ∧ w'.heap[b]? = some (wordsO (assocPut l x.o.key y)) ∧ But b w w') → Calls Tryz.prog 9 #[.pointer (some ⟨p, 0, none⟩), opv x.o] w fun e w' => ∃ r l2, e = .returned (.bool r) ∧ Applied x l r l2 ∧ w'.heap[b]? = some (wordsO l2) ∧ But b w w' := fun ha h => h.mono fun e w' ⟨y, he, hy, hs, hm, hbw⟩ => ⟨true, _, he, ⟨ha.symm, by rw [ha]; exact ⟨y, hy, hs, rfl⟩⟩, hm, hbw⟩
  cases hk1 : (x.o.K == 1)
  · have h1 : (x.o.K != 1) = true := by rw [bne, hk1]; rfl
    cases hk2 : (x.o.K == 2)
    · have h2 : (x.o.K != 2) = true := by rw [bne, hk2]; rfl
      exact no (by unfold accB; rw [hk1, hk2]; rfl) (apply_kind x p w hw hx h1 h2)
    · have h2 : (x.o.K != 2) = false := by rw [bne, hk2]; rfl
      cases hg : x.good
      · exact no (by unfold accB; rw [hk1, hk2, hg]; rfl) (apply_bad2 x p w hw hx h1 h2 hg)
      · cases ha : assoc l x.o.key with
        | none => exact yes (by unfold accB; rw [hk1, hk2, hg, ha]; rfl) (apply_new2 x l p b w hw hx hl hp hb h1 h2 hg ha)
        | some y =>
          cases hf : afterB x.o y.o
          · exact no (by unfold accB; rw [hk1, hk2, hg, ha]; simpa using hf) (apply_old2 x l p b w hw hx hl hp hb y h1 h2 hg ha (hl.at_ ha) hf)
          · exact yes (by unfold accB; rw [hk1, hk2, hg, ha]; simpa using hf) (apply_put2 x l p b w hw hx hl hp hb y h1 h2 hg ha (hl.at_ ha) hf)
  · have h1 : (x.o.K != 1) = false := by rw [bne, hk1]; rfl
    cases hg : x.good
    · exact no (by unfold accB; rw [hk1, hg]; rfl) (apply_bad1 x p w hw hx h1 hg)
    · cases ha : assoc l x.o.key with
      | none => exact yes (by unfold accB; rw [hk1, hg, ha]; rfl) (apply_new1 x l p b w hw hx hl hp hb h1 hg ha)
      | some y =>
        cases hf : afterB x.o y.o
        · exact no (by unfold accB; rw [hk1, hg, ha]; simpa using hf) (apply_old1 x l p b w hw hx hl hp hb y h1 hg ha (hl.at_ ha) hf)
        · exact yes (by unfold accB; rw [hk1, hg, ha]; simpa using hf) (apply_put1 x l p b w hw hx hl hp hb y h1 hg ha (hl.at_ ha) hf)
end Go.Proofs.YteplcnpmdjdlkaaGreatDoor
namespace Go.Proofs.YteplcnpmdjdlkaaGreatDoor
open Go.RowKit
set_option linter.unusedVariables false
set_option linter.unusedSimpArgs false
set_option linter.unusedSectionVars false
/-- A key's word, if it is set. -/
def getW (l : Wd) (k : ByteArray) : Option OT := match assoc l k with
  | some y => if y.o.K == 1 then some y else none
  | none => none
theorem op_build0 (W : World) : (Instr.build 36 #[]).run Tryz.prog W = .ok (.agg zeroO.c) W := by kernel_rfl
theorem oCopy_op (x : OT) (w : World) (hx : OT.Ok x) : Calls Tryz.prog 24 #[opv x.o] w fun e w' => ∃ y : OT, e = .returned (opv y.o) ∧ OT.Ok y ∧ OT.Same x y ∧ Below w.heap.size w w' := oCopy_any x w hx
section
variable (l : Wd) (key : ByteArray) (p b : Nat) (w : World) (hk : KSz key) (hl : WdOk l) (hp : w.heap[p]? = some (headO b)) (hb : w.heap[b]? = some (wordsO l))
include hk hl hp hb
set_option maxRecDepth 100000 in
set_option maxHeartbeats 1000000 in
theorem get_none (ha : assoc l key = none) : Calls Tryz.prog 11 #[.pointer (some ⟨p, 0, none⟩), .string key] w fun e w' => e = .returned (.tuple #[opv zeroO, .bool false]) ∧ Below w.heap.size w w' := by
  have HL := Lib.hid hl
  have HK := Lib.hid hk
  have HP := Lib.hid hp
  have HB := Lib.hid hb
  have HA := Lib.hid ha
  have hpl : Hid (p < w.heap.size) := Lib.hid (Array.getElem?_eq_some_iff.1 hp).1
  have hbl : Hid (b < w.heap.size) := Lib.hid (Array.getElem?_eq_some_iff.1 hb).1
  have hb0 := op_build0
  have hS := Boxes.start w
  clear hl hk hp hb ha
  go_enter Tryz.func11, Tryz.ntmps11
  go_wp2_with (first | go_skip | ((with_reducible refine gate_op (op := .alloc 36) rfl ?_); refine alloc_arm rfl 36 rfl (op_alloc _) ?_; intro wn hbn hgn; have hS1 := hS.new hbn hgn; (try simp only [List.nil_append, List.cons_append, List.set_cons_zero, List.set_cons_succ] at hS1); clear hS hbn hgn; have hS := hS1; clear hS1) | ((with_reducible refine gate_op (op := .load 56 (.tmp 11)) rfl ?_); refine load_elem rfl 56 (.tmp 11) rfl _ _ rfl 58 _ (0, 0) _ _ ((hS.below.block p hpl.out).trans HP.out) rfl Tryz.underlying56 rfl ?_) | ((with_reducible refine gate_op (op := .lookup 56 (.tmp 12) (.tmp 13) true) rfl ?_); refine look_arm rfl (.tmp 12) (.tmp 13) true rfl str_key mapt_under HL.out.keys HK.out rfl rfl ((hS.below.block b hbl.out).trans HB.out) (op_zero _) (look_word HA.out) ?_) | ((with_reducible refine gate_op (op := .store 36 (.tmp 6) (.tmp 15)) rfl ?_); refine wpList_store_row rfl 36 (.tmp 6) (.tmp 15) rfl _ zeroO.c rfl rfl 36 _ (hS.at_ 1 rfl) (op_info _ rfl) rfl (op_one rfl rfl) ?_; intro wn hbn hgn hon hsn; have hS1 := hS.put 1 rfl hon hbn hgn; (try simp only [List.nil_append, List.cons_append, List.set_cons_zero, List.set_cons_succ] at hS1); clear hS hbn hgn hon hsn; have hS := hS1; clear hS1) | ((with_reducible refine gate_op (op := .store 36 (.tmp 4) (.tmp 24)) rfl ?_); refine wpList_store_row rfl 36 (.tmp 4) (.tmp 24) rfl _ zeroO.c rfl rfl 36 _ (hS.at_ 0 rfl) (op_info _ rfl) rfl (op_one rfl rfl) ?_; intro wn hbn hgn hon hsn; have hS1 := hS.put 0 rfl hon hbn hgn; (try simp only [List.nil_append, List.cons_append, List.set_cons_zero, List.set_cons_succ] at hS1); clear hS hbn hgn hon hsn; have hS := hS1; clear hS1))
  exact bodyPost_ret (v := .tuple #[opv zeroO, .bool false]) (results_row_tmp rfl _ _ _ _ _ _ _ _ rfl rfl (hS.at_ 0 rfl) Tryz.underlying36 rfl (op_info _ rfl)) rfl
    ⟨rfl, hS.below⟩
set_option maxRecDepth 100000 in
set_option maxHeartbeats 1000000 in
theorem get_off (y : OT) (ha : assoc l key = some y) (hq : (y.o.K != 1) = true) : Calls Tryz.prog 11 #[.pointer (some ⟨p, 0, none⟩), .string key] w fun e w' => e = .returned (.tuple #[opv zeroO, .bool false]) ∧ Below w.heap.size w w' := by
  have hy := hl.at_ ha
  have HY := Lib.hid hy
  have hys := hy.seen
  clear hy
  have HL := Lib.hid hl
  have HK := Lib.hid hk
  have HP := Lib.hid hp
  have HB := Lib.hid hb
  have HA := Lib.hid ha
  have hpl : Hid (p < w.heap.size) := Lib.hid (Array.getElem?_eq_some_iff.1 hp).1
  have hbl : Hid (b < w.heap.size) := Lib.hid (Array.getElem?_eq_some_iff.1 hb).1
  have hb0 := op_build0
  have hS := Boxes.start w
  clear hl hk hp hb ha
  go_enter Tryz.func11, Tryz.ntmps11
  go_wp2_with (first | go_skip | ((with_reducible refine gate_op (op := .alloc 36) rfl ?_); refine alloc_arm rfl 36 rfl (op_alloc _) ?_; intro wn hbn hgn; have hS1 := hS.new hbn hgn; (try simp only [List.nil_append, List.cons_append, List.set_cons_zero, List.set_cons_succ] at hS1); clear hS hbn hgn; have hS := hS1; clear hS1) | ((with_reducible refine gate_op (op := .load 56 (.tmp 11)) rfl ?_); refine load_elem rfl 56 (.tmp 11) rfl _ _ rfl 58 _ (0, 0) _ _ ((hS.below.block p hpl.out).trans HP.out) rfl Tryz.underlying56 rfl ?_) | ((with_reducible refine gate_op (op := .lookup 56 (.tmp 12) (.tmp 13) true) rfl ?_); refine look_arm rfl (.tmp 12) (.tmp 13) true rfl str_key mapt_under HL.out.keys HK.out rfl rfl ((hS.below.block b hbl.out).trans HB.out) (op_zero _) (look_word HA.out) ?_) | (((with_reducible refine gate_op (op := .store 36 (.tmp 6) (.tmp 15)) rfl ?_); refine wpList_store_row rfl 36 (.tmp 6) (.tmp 15) rfl _ y.o.c rfl rfl 36 _ (hS.at_ 1 rfl) (op_info _ hys) ((OpV.size (o := zeroO) rfl).trans (OpV.size (o := y.o) hys).symm) (ot_one HY.out.vc) ?_; intro wn hbn hgn hon hsn; have hS1 := hS.put 1 rfl hon hbn hgn; (try simp only [List.nil_append, List.cons_append, List.set_cons_zero, List.set_cons_succ] at hS1); clear hS hbn hgn hon hsn; have hS := hS1; clear hS1); have x67 := (cell_of_row _ _ 67 _ _ _ (hS.at_ 1 rfl)).trans (OpV.g67 hys)) | ((with_reducible refine gate_op (op := .store 36 (.tmp 4) (.tmp 24)) rfl ?_); refine wpList_store_row rfl 36 (.tmp 4) (.tmp 24) rfl _ zeroO.c rfl rfl 36 _ (hS.at_ 0 rfl) (op_info _ rfl) rfl (op_one rfl rfl) ?_; intro wn hbn hgn hon hsn; have hS1 := hS.put 0 rfl hon hbn hgn; (try simp only [List.nil_append, List.cons_append, List.set_cons_zero, List.set_cons_succ] at hS1); clear hS hbn hgn hon hsn; have hS := hS1; clear hS1))
  exact bodyPost_ret (v := .tuple #[opv zeroO, .bool false]) (results_row_tmp rfl _ _ _ _ _ _ _ _ rfl rfl (hS.at_ 0 rfl) Tryz.underlying36 rfl (op_info _ rfl)) rfl
    ⟨rfl, hS.below⟩
set_option maxRecDepth 100000 in
set_option maxHeartbeats 1000000 in
theorem get_on (y : OT) (ha : assoc l key = some y) (hq : (y.o.K != 1) = false) : Calls Tryz.prog 11 #[.pointer (some ⟨p, 0, none⟩), .string key] w fun e w' => ∃ z : OT, e = .returned (.tuple #[opv z.o, .bool true]) ∧ OT.Ok z ∧ OT.Same y z ∧ Below w.heap.size w w' := by
  have hy := hl.at_ ha
  have HY := Lib.hid hy
  have hys := hy.seen
  clear hy
  have HL := Lib.hid hl
  have HK := Lib.hid hk
  have HP := Lib.hid hp
  have HB := Lib.hid hb
  have HA := Lib.hid ha
  have hpl : Hid (p < w.heap.size) := Lib.hid (Array.getElem?_eq_some_iff.1 hp).1
  have hbl : Hid (b < w.heap.size) := Lib.hid (Array.getElem?_eq_some_iff.1 hb).1
  have hb0 := op_build0
  have hS := Boxes.start w
  clear hl hk hp hb ha
  go_enter Tryz.func11, Tryz.ntmps11
  go_wp2_with (first | go_skip | ((with_reducible refine gate_op (op := .alloc 36) rfl ?_); refine alloc_arm rfl 36 rfl (op_alloc _) ?_; intro wn hbn hgn; have hS1 := hS.new hbn hgn; (try simp only [List.nil_append, List.cons_append, List.set_cons_zero, List.set_cons_succ] at hS1); clear hS hbn hgn; have hS := hS1; clear hS1) | ((with_reducible refine gate_op (op := .load 56 (.tmp 11)) rfl ?_); refine load_elem rfl 56 (.tmp 11) rfl _ _ rfl 58 _ (0, 0) _ _ ((hS.below.block p hpl.out).trans HP.out) rfl Tryz.underlying56 rfl ?_) | ((with_reducible refine gate_op (op := .lookup 56 (.tmp 12) (.tmp 13) true) rfl ?_); refine look_arm rfl (.tmp 12) (.tmp 13) true rfl str_key mapt_under HL.out.keys HK.out rfl rfl ((hS.below.block b hbl.out).trans HB.out) (op_zero _) (look_word HA.out) ?_) | (((with_reducible refine gate_op (op := .store 36 (.tmp 6) (.tmp 15)) rfl ?_); refine wpList_store_row rfl 36 (.tmp 6) (.tmp 15) rfl _ y.o.c rfl rfl 36 _ (hS.at_ 1 rfl) (op_info _ hys) ((OpV.size (o := zeroO) rfl).trans (OpV.size (o := y.o) hys).symm) (ot_one HY.out.vc) ?_; intro wn hbn hgn hon hsn; have hS1 := hS.put 1 rfl hon hbn hgn; (try simp only [List.nil_append, List.cons_append, List.set_cons_zero, List.set_cons_succ] at hS1); clear hS hbn hgn hon hsn; have hS := hS1; clear hS1); have x67 := (cell_of_row _ _ 67 _ _ _ (hS.at_ 1 rfl)).trans (OpV.g67 hys)) | ((with_reducible refine gate_op (op := .load 36 (.tmp 6)) rfl ?_); refine wpList_load_row' rfl 36 (.tmp 6) rfl _ rfl 36 _ (0, 0) _ (hS.at_ 1 rfl) Tryz.underlying36 rfl (op_info _ hys) ?_) | (go_at_call 24; (with_reducible (refine (oCopy_op y _ HY.out).mono ?_)); rintro e wn ⟨z, rfl, hz, hsz, hbn⟩; have hS1 := hS.step hbn; clear hS hbn x67; have hS := hS1; clear hS1; have HZ := Lib.hid (And.intro hz hsz); have hzs := hz.seen; clear hz hsz) | ((with_reducible refine gate_op (op := .store 36 (.tmp 4) (.tmp 26)) rfl ?_); refine wpList_store_row rfl 36 (.tmp 4) (.tmp 26) rfl _ z.o.c rfl rfl 36 _ (hS.at_ 0 rfl) (op_info _ hzs) ((OpV.size (o := zeroO) rfl).trans (OpV.size (o := z.o) hzs).symm) (ot_one HZ.out.1.vc) ?_; intro wn hbn hgn hon hsn; have hS1 := hS.put 0 rfl hon hbn hgn; (try simp only [List.nil_append, List.cons_append, List.set_cons_zero, List.set_cons_succ] at hS1); clear hS hbn hgn hon hsn; have hS := hS1; clear hS1))
  exact bodyPost_ret (v := .tuple #[opv z.o, .bool true]) (results_row_tmp rfl _ _ _ _ _ _ _ _ rfl rfl (hS.at_ 0 rfl) Tryz.underlying36 rfl (op_info _ hzs)) rfl
    ⟨z, rfl, HZ.out.1, HZ.out.2, hS.below⟩
theorem lGet_any : Calls Tryz.prog 11 #[.pointer (some ⟨p, 0, none⟩), .string key] w fun e w' => ∃ z : OT, e = .returned (.tuple #[opv z.o, .bool (getW l key).isSome]) ∧ OT.Ok z ∧ (match getW l key with
    | some y => OT.Same y z
    | none => z = zOT) ∧ Below w.heap.size w w' := by
  cases ha : assoc l key with
  | none =>
    have e : getW l key = none := by unfold getW; rw [ha]
    rw [e]
    exact (get_none l key p b w hk hl hp hb ha).mono fun e w' ⟨he, hb⟩ => ⟨zOT, he, zOT_ok, rfl, hb⟩
  | some y =>
    cases hq : (y.o.K == 1)
    · have e : getW l key = none := by unfold getW; rw [ha]; simp only [hq]; rfl
      rw [e]
      exact (get_off l key p b w hk hl hp hb y ha (by rw [bne, hq]; rfl)).mono fun e w' ⟨he, hb⟩ => ⟨zOT, he, zOT_ok, rfl, hb⟩
    · have e : getW l key = some y := by unfold getW; rw [ha]; simp only [hq]; rfl
      rw [e]
      exact (get_on l key p b w hk hl hp hb y ha (by rw [bne, hq]; rfl)).mono fun e w' ⟨z, he, hz, hs, hb⟩ => ⟨z, he, hz, hs, hb⟩
end
end Go.Proofs.YteplcnpmdjdlkaaGreatDoor
namespace Go.Proofs.YteplcnpmdjdlkaaGreatDoor
open Go.RowKit Go.Sort
set_option linter.unusedVariables false
set_option linter.unusedSimpArgs false
set_option linter.unusedSectionVars false
def kb (s : List UInt8) : ByteArray := ⟨s.toArray⟩
theorem enc_kb (s : List UInt8) : encStr s = .string (kb s) := rfl
theorem kb_data (k : ByteArray) : kb k.data.toList = k := by cases k; simp [kb]
/-- Is a key set? -/
def onK (l : Wd) (s : List UInt8) : Bool := match assoc l (kb s) with
  | some y => y.o.K == 1
  | none => false
/-- A map's keys, ascending. -/
def sortK (l : Wd) : List (List UInt8) := (l.map fun p => p.1.data.toList).mergeSort (fun x y => decide (x ≤ y))
def keysW (l : Wd) : List (List UInt8) := (sortK l).filter (onK l)
theorem sortK_mem {l : Wd} {s : List UInt8} (h : s ∈ sortK l) : ∃ y, assoc l (kb s) = some y := by
  unfold sortK at h
  rw [List.mem_mergeSort] at h
  obtain ⟨p, hp, rfl⟩ := List.mem_map.1 h
  rw [kb_data]
  cases ha : assoc l p.1 with
  | some y => exact ⟨y, rfl⟩
  | none => exact absurd (List.mem_map.2 ⟨p, hp, rfl⟩) (assoc_none.1 ha)
theorem field_kind (o : OpV) (h : o.seen.length = 64) (W : World) : (Instr.field 36 (.agg o.c) 3).run Tryz.prog W = .ok (.int .i64 o.K) W := by
  have h67 := OpV.g67 h
  unfold Instr.field
  rw [Sem.run_bind, run_underlying Tryz.underlying36]
  simp [asAgg, part, isAgg, h67, Sem.run_bind, run_underlying Tryz.underlying3]
/-- A key, looked up. -/
theorem look_key {l : Wd} {k : ByteArray} {y : OT} (h : assoc l k = some y) : lookV false OT.v (.agg zeroO.c) (assoc l k) = opv y.o := by rw [h]; rfl
theorem filter_take (p : List UInt8 → Bool) (L : List (List UInt8)) (j : Nat) (s : List UInt8) (h : L[j]? = some s) : (L.take (j + 1)).filter p = (L.take j).filter p ++ (if p s then [s] else []) := by
  rw [List.take_add_one, h]
  simp only [Option.toList_some, List.filter_append]
  cases hp : p s <;> simp [List.filter, hp]
theorem info_str : (Tryz.prog.info? 9).map (fun i => (i.zero, i.size, i.bytes)) = some (some (.string ⟨#[]⟩), 1, 16) := by kernel_rfl
theorem row_slice {w : World} {base : Nat} {e : TypeId} {v : Value} {n : Nat} {xs : List Value} (h : w.ownsRow base e 1 v n xs) : ∃ A g c, v = .slice A n c ∧ (0 < n → A = some ⟨g, 0, none⟩ ∧ base ≤ g ∧ g < w.heap.size ∧ ∀ (j : Nat) u, xs[j]? = some u → w.cell? ⟨g, j, none⟩ = some u) := by
  rcases Nat.eq_zero_or_pos n with h0 | h0
  · rcases h.2 with ⟨rfl, _⟩ | ⟨g, cap, cur, rfl, _⟩
    · exact ⟨none, 0, 0, by rw [h0], fun hn => absurd hn (by omega)⟩
    · exact ⟨_, 0, _, rfl, fun hn => absurd hn (by omega)⟩
  · obtain ⟨g, cap, cur, rfl, hb, _, _, hg, hc⟩ := own_block h h0
    exact ⟨_, g, cap, rfl, fun _ => ⟨rfl, hb, (Array.getElem?_eq_some_iff.1 hg).1, fun j u hu => by rw [cell_of_row _ _ _ _ _ _ hg]; exact hc j u hu⟩⟩
theorem sorted_slice (l : Wd) (w : World) (b : Nat) (hl : KeysIn KSz l) (hn : l.length ≤ 1000000) (hb : w.heap[b]? = some (wordsO l)) :
    Calls Tryz.prog 25 #[.func (.func 42) #[] #[.pointer (some ⟨w.heap.size, 0, none⟩)]] (w.alloc (.cells #[.map (some b)] 56)) fun e w' => ∃ A g c, e = .returned (.slice A (sortK l).length c) ∧ (0 < (sortK l).length → A = some ⟨g, 0, none⟩ ∧ g < w'.heap.size ∧ ∀ (j : Nat) s, (sortK l)[j]? = some s → w'.cell? ⟨g, j, none⟩ = some (.string (kb s))) ∧ Below w.heap.size w w' :=
  (sorted_call (vf := OT.v) l w b hl hn hb).mono fun e w' ⟨v, ss, he, hperm, hrow, _, hbel⟩ => by
    have e1 : ss.mergeSort (fun x y => decide (x ≤ y)) = sortK l := mergeSort_of_perm hperm
    have e2 : ss.length = (sortK l).length := by rw [← e1, List.length_mergeSort]
    rw [e1, e2] at hrow
    obtain ⟨A, g, c, rfl, hA⟩ := row_slice hrow
    refine ⟨A, g, c, he, fun h0 => ?_, hbel⟩
    obtain ⟨h1, _, h3, h4⟩ := hA h0
    exact ⟨h1, h3, fun j s hs => h4 j _ (by rw [List.getElem?_map, hs]; rfl)⟩
section
variable (l : Wd) (p b : Nat) (w : World) (hl : WdOk l) (hn : l.length ≤ 1000000) (hp : w.heap[p]? = some (headO b)) (hb : w.heap[b]? = some (wordsO l))
include hl hn hp hb
omit hl hp hb in
theorem sortK_len : (sortK l).length ≤ 1000000 := by unfold sortK; rw [List.length_mergeSort, List.length_map]; exact hn
set_option maxRecDepth 100000 in
set_option maxHeartbeats 2000000 in
theorem lKeys_any : Calls Tryz.prog 13 #[.pointer (some ⟨p, 0, none⟩)] w fun e w' => ∃ v, e = .returned v ∧ w'.ownsRow w.heap.size 9 1 v (keysW l).length ((keysW l).map encStr) ∧ Below w.heap.size w w' := by
  have HL := Lib.hid hl
  have HN := Lib.hid (sortK_len l hn)
  have HP := Lib.hid hp
  have HB := Lib.hid hb
  have cS := Lib.hid (sorted_slice l w b hl.keys hn hb)
  have hpl : Hid (p < w.heap.size) := Lib.hid (Array.getElem?_eq_some_iff.1 hp).1
  have hbl : Hid (b < w.heap.size) := Lib.hid (Array.getElem?_eq_some_iff.1 hb).1
  have c0 : w.cell? ⟨p, 0, none⟩ = some (.map (some b)) := by rw [cell_of_row _ _ _ _ _ _ hp]; rfl
  clear hl hn hp hb
  go_enter Tryz.func13, Tryz.ntmps13
  go_wp2_with (first | go_skip | (go_at_call 26; (with_reducible (refine (keys_call _ _).mono ?_)); rintro e wn ⟨rfl, rfl⟩) | (go_at_call 25; (with_reducible (refine (cS.out).mono ?_)); rintro e w1 ⟨A, g, c, rfl, hA, hB⟩; have HA := Lib.hid hA; have HBL := Lib.hid hB; clear hA hB c0))
  go_loopw [3, 13] (fun acc iv wr => ∃ j : Nat, j ≤ (sortK l).length ∧ iv = .int .i64 (j : Int) ∧ Below w1.heap.size w1 wr ∧ wr.ownsRow w1.heap.size 9 1 acc (((sortK l).take j).filter (onK l)).length ((((sortK l).take j).filter (onK l)).map encStr)) (fun _ iv _ => (sortK l).length - (intOf iv).toNat)
  case atStart => exact ⟨0, Nat.zero_le _, rfl, Below.refl _ _, by simpa using World.ownsRow_nil w1 _ _ _⟩
  case round =>
    rename_i wr
    obtain ⟨j, hj, rfl, hbr, hown⟩ := hrel
    by_cases hlt : j < (sortK l).length
    · have hltb : decide ((j : Int) < (sortK l).length) = true := by simp; omega
      obtain ⟨hA1, hg, hcs⟩ := HA.out (by omega)
      obtain ⟨s, hs⟩ : ∃ s, (sortK l)[j]? = some s := ⟨_, List.getElem?_eq_getElem hlt⟩
      obtain ⟨y, hy⟩ := sortK_mem (List.mem_of_getElem? hs)
      have cj : wr.cell? ⟨g, j, none⟩ = some (.string (kb s)) := (hbr.cell (p := ⟨g, j, none⟩) hg).trans (hcs j s hs)
      have hpw : p < w1.heap.size := Nat.lt_of_lt_of_le hpl.out HBL.out.size
      have hbw : b < w1.heap.size := Nat.lt_of_lt_of_le hbl.out HBL.out.size
      have cp : wr.cell? ⟨p, 0, none⟩ = some (.map (some b)) := by
        rw [cell_of_row wr _ _ _ _ _ ((hbr.block p hpw).trans ((HBL.out.block p hpl.out).trans HP.out))]; rfl
      have bw : wr.heap[b]? = some (wordsO l) := (hbr.block b hbw).trans ((HBL.out.block b hbl.out).trans HB.out)
      have hys := (HL.out.at_ hy).seen
      have hf := field_kind y.o hys
      have hks : KSz (kb s) := by
        have := HL.out.keys.all _ (assoc_mem hy)
        exact this
      have HT := Lib.hid (filter_take (onK l) (sortK l) j s hs)
      have hon : onK l s = (y.o.K == 1) := by unfold onK; rw [hy]
      have hlen : Hid ((((sortK l).take j).filter (onK l)).length ≤ 1000000) := Lib.hid (by have := List.length_filter_le (onK l) ((sortK l).take j); have := List.length_take_le j (sortK l); have := HN.out; omega)
      have HY := Lib.hid hy
      have HO := Lib.hid hown
      have HR := Lib.hid hbr
      subst hA1
      have hnn := HN.out
      clear hs hy hown hbr hg hcs
      generalize hF : ((sortK l).take j).filter (onK l) = F at *
      cases hK : (y.o.K == 1)
      · go_wp2_with (first | go_skip | ((with_reducible refine gate_op (op := .lookup 56 (.tmp 20) (.tmp 21) false) rfl ?_); refine look_arm rfl (.tmp 20) (.tmp 21) false rfl str_key mapt_under HL.out.keys hks rfl rfl bw (op_zero _) (look_key HY.out) ?_))
        go_roundw
        case rel => exact ⟨j + 1, by omega, by go_num, HR.out, by rw [HT.out, hon, hK]; simpa using HO.out⟩
        case measure => simp [intOf]; omega
      · go_wp2_with (first | go_skip | ((with_reducible refine gate_op (op := .lookup 56 (.tmp 20) (.tmp 21) false) rfl ?_); refine look_arm rfl (.tmp 20) (.tmp 21) false rfl str_key mapt_under HL.out.keys hks rfl rfl bw (op_zero _) (look_key HY.out) ?_) | (at_builtin; refine append_one rfl (.tmp 25) (.tmp 27) 43 9 rfl w1.heap.size (.string ⟨#[]⟩) 1 16 Tryz.underlying43 info_str rfl (by decide) (by decide) _ _ _ rfl HO.out #[.string (kb s)] rfl rfl rfl (by have := hlen.out; omega) HR.out.size ?_; intro v' wn hown' hk2 hb2; have HO2 := Lib.hid hown'; have HR2 := Lib.hid (HR.out.trans hb2); clear hown' hk2 hb2))
        go_roundw
        case rel => exact ⟨j + 1, by omega, by go_num, HR2.out, by rw [HT.out, hon, hK, if_pos rfl, List.length_append, List.map_append]; exact HO2.out⟩
        case measure => simp [intOf]; omega
    · have hge : decide ((j : Int) < (sortK l).length) = false := by simp; omega
      obtain rfl : j = (sortK l).length := by omega
      rw [List.take_length] at hown
      have HO := Lib.hid hown
      have HR := Lib.hid hbr
      clear hown hbr
      go_wp2_with go_skip
      go_ret
      exact ⟨_, rfl, ownsRow_base_a HO.out HBL.out.size, HBL.out.trans (HR.out.mono HBL.out.size)⟩
theorem lLen_any : Calls Tryz.prog 12 #[.pointer (some ⟨p, 0, none⟩)] w fun e w' => e = .returned (.int .i64 (keysW l).length) ∧ Below w.heap.size w w' := by
  have cK := Lib.hid (lKeys_any l p b w hl hn hp hb)
  clear hl hn hp hb
  go_enter Tryz.func12, Tryz.ntmps12
  go_wp2_with (first | go_skip | (go_at_call 13; (with_reducible (refine (cK.out).mono ?_)); rintro e w1 ⟨v, rfl, hrow, hB⟩; obtain ⟨A, g, c, rfl, _⟩ := row_slice hrow; have HBL := Lib.hid hB; clear hrow hB))
  go_ret
  exact ⟨rfl, HBL.out⟩
omit hl hn in
theorem lCopy_any : Calls Tryz.prog 21 #[.pointer (some ⟨p, 0, none⟩)] w fun e w' => ∃ p2 b2, e = .returned (.pointer (some ⟨p2, 0, none⟩)) ∧ Boxes w w' [(b2, wordsO l), (p2, headO b2)] := by
  have c0 : w.cell? ⟨p, 0, none⟩ = some (.map (some b)) := by rw [cell_of_row _ _ _ _ _ _ hp]; rfl
  have cC := Lib.hid (clone_call (kf := Value.string) (vf := OT.v) l w b hb)
  clear hp hb
  go_enter Tryz.func21, Tryz.ntmps21
  go_wp2_with (first | go_skip | (go_at_call 33; (with_reducible (refine (cC.out).mono ?_)); rintro e w1 ⟨rfl, rfl⟩))
  go_ret
  have h := ((Boxes.start w).alloc (wordsO l)).alloc (headO w.heap.size)
  rw [show (w.alloc (wordsO l)).heap.size = w.heap.size + 1 from Array.size_push ..] at h
  exact ⟨_, _, rfl, h⟩
end
end Go.Proofs.YteplcnpmdjdlkaaGreatDoor
