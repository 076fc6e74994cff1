/-
  value.Get tells what is written here, for all trees, all keys. No condition.
-/
import Derived.Test.YtcpmehppfccihaaGreatDoorJ7
import Derived.Test.YtcpmehppfccihaaGreatDoorJ8
import Derived.Test.YtcpmehppfccihaaGreatDoorJ13
namespace Go.Proofs.YtcpmehppfccihaaGreatDoor
open Go.RowKit
set_option linter.unusedVariables false
set_option linter.unusedSimpArgs false
set_option linter.unusedSectionVars false
section
variable {P : Program} {ops : Array Oper} {rest : List Oper} {o : Oper} {a : Act} {w : World} {Q : Exit → Act → World → Prop}
/-- A call of a function value that bears values of its own. -/
theorem call_fb (hwt : Region.wanted o (yielded ops a.tmps) = true) (x : Operand) (xs : Array Operand) (ts : Array TypeId) (ho : o.op = .call { callee := .value x, args := xs, argTypes := ts })
    {f : FuncId} {fn : Func} {cb : Array Value} (hx : a.eval x = .func (.func f) #[] cb) (hf : P.funcs[f]? = some fn) (hname : (fn.name == "runtime.NumGoroutine") = false) (hb : fn.body.isSome = true) (args : Array Value) (hargs : xs.map a.eval = args)
    (h : Calls P f (args ++ cb) w fun e w' => ∃ v, e = .returned v ∧ wpList P ops Q rest (a.put o.dst v) w') : wpList P ops Q (o :: rest) a w :=
  BigFrame.wpList_want hwt fun K hK => by
    have hb' : fn.body ≠ none := by intro hq; rw [hq] at hb; cases hb
    have hn' : fn.name ≠ "runtime.NumGoroutine" := by simpa using hname
    have hrun : (execOp a.eval o).run P w = .ok (.enter f (args ++ cb)) w := by
      unfold execOp
      simp [ho, resolve, hx, Deferred.ofValue, invoke, hargs, callFunc, hf, hn', hb']
    unfold Oper.wp
    rw [hrun, Oper.upon_enter]
    refine h.mono fun e w'' hh => ?_
    obtain ⟨v, rfl, hk⟩ := hh
    exact hK _ _ hk
end
/-- Is the i-th key this one? -/
def isK (t : VT) (key : ByteArray) (i : Nat) : Bool := (t.key i).toList == key.toList
theorem getf_any (t : VT) (i : Nat) (key : ByteArray) (b : Nat) (w : World) (hb : w.heap[b]? = some (.cells #[.string key] 9 (0, 0))) :
    Calls Tryz.prog 46 #[.agg (t.pc i), .pointer (some ⟨b, 0, none⟩)] w fun e w' => e = .returned (.bool (isK t key i)) ∧ Below w.heap.size w w' := by
  have hlt : b < w.heap.size := (Array.getElem?_eq_some_iff.1 hb).1
  have hS : Boxes w (w.alloc (Obj.cells (t.pc i) 34)) [(w.heap.size, Obj.cells (t.pc i) 34)] := (Boxes.start w).alloc _
  have c0 : (w.alloc (Obj.cells (t.pc i) 34)).cell? ⟨w.heap.size, 0, none⟩ = some (.string (t.key i)) := cell_of_row _ _ 0 _ _ _ (hS.at_ 0 rfl)
  have cb : (w.alloc (Obj.cells (t.pc i) 34)).cell? ⟨b, 0, none⟩ = some (.string key) := cell_of_row _ _ 0 _ _ _ ((heap_alloc_old _ _ hlt).trans hb)
  go_enter Tryz.func46, Tryz.ntmps46
  go_wp2_with go_skip
  go_ret
  exact ⟨rfl, hS.below⟩
/-- Where the key stands; -1: nowhere. -/
def StandsK (t : VT) (key : ByteArray) (r : Int) : Prop := (∃ i : Nat, i < t.mn ∧ r = (i : Int) ∧ isK t key i = true ∧ ∀ j, j < i → isK t key j = false) ∨ (r = -1 ∧ ∀ j, j < t.mn → isK t key j = false)
set_option maxRecDepth 100000 in
set_option maxHeartbeats 2000000 in
theorem indexP_any (t : VT) (key : ByteArray) (b : Nat) (w : World) (ht : VT.In w.heap.size w t) (hb : w.heap[b]? = some (.cells #[.string key] 9 (0, 0))) :
    Calls Tryz.prog 45 #[.slice t.mA t.mn t.mc, .func (.func 46) #[] #[.pointer (some ⟨b, 0, none⟩)]] w fun e w' => (∃ r, e = .returned (.int .i64 r) ∧ StandsK t key r) ∧ Below w.heap.size w w' := by
  have hlt0 : b < w.heap.size := (Array.getElem?_eq_some_iff.1 hb).1
  have HA := ht.here
  have hml := HA.ml
  have hS0 := Boxes.start w
  clear ht
  go_enter Tryz.func45, Tryz.ntmps45
  go_wp2_with go_skip
  go_loopw [8] (fun iv wr => ∃ i : Nat, i ≤ t.mn ∧ iv = .int .i64 (i : Int) ∧ Hid (∀ j, j < i → isK t key j = false) ∧ Boxes w wr []) (fun iv _ => t.mn - (intOf iv).toNat)
  case atStart => exact ⟨0, Nat.zero_le _, rfl, fun j hj => absurd hj (Nat.not_lt_zero j), hS0⟩
  case round =>
    rename_i wr
    obtain ⟨i, hi, rfl, H, hS⟩ := hrel
    by_cases hlt : i < t.mn
    · have hltb : decide ((i : Int) < t.mn) = true := by simp; omega
      have xa := HA.mix hlt
      have LA := Lib.hid ((HA.move (hS.below)).mcell i hlt)
      have hcl : Calls Tryz.prog 46 (#[.agg (t.pc i)] ++ #[.pointer (some ⟨b, 0, none⟩)]) wr fun e w' => e = .returned (.bool (isK t key i)) ∧ Below wr.heap.size wr w' := getf_any t i key b wr ((hS.below.block b hlt0).trans hb)
      cases hk : isK t key i
      · rw [hk] at hcl
        have HK := Lib.hid hcl
        have hn : Hid (∀ j, j < i + 1 → isK t key j = false) := fun j hj => by
          by_cases h : j < i
          · exact H.out j h
          · obtain rfl : j = i := by omega
            exact hk
        clear hcl hk
        go_wp2_with (first | go_skip | (refine load_cells rfl 34 (.tmp 14) rfl _ _ rfl _ _ LA.out Tryz.underlying34 rfl (VT.pair_info _ _) ?_) | (refine call_fb rfl (.tmp 11) #[.tmp 15] #[34] rfl rfl Tryz.func46 (by kernel_rfl) (by kernel_rfl) #[.agg (t.pc i)] (by simp only [List.map_toArray, List.map_cons, List.map_nil]; rfl) ?_; (with_reducible (refine HK.out.mono ?_)); rintro e wn ⟨rfl, hbn⟩; have hS1 := hS.step hbn; clear hS hbn; have hS := hS1; clear hS1; refine ⟨_, rfl, ?_⟩))
        go_roundw
        case rel => exact ⟨i + 1, by omega, by go_num, hn, hS⟩
        case measure => simp [intOf]; omega
      · rw [hk] at hcl
        have HK := Lib.hid hcl
        have hy : Hid (StandsK t key (i : Int)) := .inl ⟨i, hlt, rfl, hk, H.out⟩
        clear hcl hk
        go_wp2_with (first | go_skip | (refine load_cells rfl 34 (.tmp 14) rfl _ _ rfl _ _ LA.out Tryz.underlying34 rfl (VT.pair_info _ _) ?_) | (refine call_fb rfl (.tmp 11) #[.tmp 15] #[34] rfl rfl Tryz.func46 (by kernel_rfl) (by kernel_rfl) #[.agg (t.pc i)] (by simp only [List.map_toArray, List.map_cons, List.map_nil]; rfl) ?_; (with_reducible (refine HK.out.mono ?_)); rintro e wn ⟨rfl, hbn⟩; have hS1 := hS.step hbn; clear hS hbn; have hS := hS1; clear hS1; refine ⟨_, rfl, ?_⟩))
        go_ret
        exact ⟨⟨_, rfl, hy.out⟩, hS.below⟩
    · have hge : decide ((i : Int) < t.mn) = false := by simp; omega
      obtain rfl : i = t.mn := by omega
      go_wp2_with go_skip
      go_ret
      exact ⟨⟨_, rfl, .inr ⟨rfl, H.out⟩⟩, hS.below⟩
theorem told_one {t : VT} {key : ByteArray} {r r' : Int} (h : StandsK t key r) (h' : StandsK t key r') : r = r' := by
  rcases h with ⟨i, hi, rfl, hk, hn⟩ | ⟨rfl, hn⟩ <;> rcases h' with ⟨j, hj, rfl, hk', hn'⟩ | ⟨rfl, hn'⟩
  · rcases Nat.lt_trichotomy i j with h | h | h
    · rw [hn' i h] at hk; cases hk
    · rw [h]
    · rw [hn j h] at hk'; cases hk'
  · rw [hn' i hi] at hk; cases hk
  · rw [hn j hj] at hk'; cases hk'
  · rfl
/-- What a map has at a key. -/
def getV (t : VT) (key : ByteArray) : VT × Bool := if t.k = 6 then (match (List.range t.mn).find? (isK t key) with | some i => (t.mt i, true) | none => (.no, false)) else (.no, false)
theorem find_some {t : VT} {key : ByteArray} {i : Nat} (hi : i < t.mn) (hk : isK t key i = true) (hn : ∀ j, j < i → isK t key j = false) : (List.range t.mn).find? (isK t key) = some i := by
  rw [List.find?_range_eq_some]
  exact ⟨hk, List.mem_range.2 hi, fun j hj => by rw [hn j hj]; rfl⟩
theorem find_none {t : VT} {key : ByteArray} (hn : ∀ j, j < t.mn → isK t key j = false) : (List.range t.mn).find? (isK t key) = none := by
  rw [List.find?_eq_none]
  intro j hj
  rw [hn j (List.mem_range.1 hj)]
  simp
theorem told_ex (t : VT) (key : ByteArray) : ∃ r, StandsK t key r := by
  cases h : (List.range t.mn).find? (isK t key) with
  | none => exact ⟨-1, .inr ⟨rfl, fun j hj => by
      have := List.find?_eq_none.1 h j (List.mem_range.2 hj)
      simpa using this⟩⟩
  | some i =>
    rw [List.find?_range_eq_some] at h
    exact ⟨i, .inl ⟨i, List.mem_range.1 h.2.1, rfl, h.1, fun j hj => by simpa using h.2.2 j hj⟩⟩
set_option maxRecDepth 100000 in
    set_option maxHeartbeats 2000000 in
    theorem vGet_x (t : VT) (key : ByteArray) (w : World) (ht : VT.In w.heap.size w t) (hk : (t.k != 6) = true) : Calls Tryz.prog 14 #[.agg t.c, .string key] w fun e w' => e = .returned (.tuple #[.agg (VT.c .no), .bool false]) ∧ Below w.heap.size w w' := by
      have HT := Lib.hid ht
      have HA := ht.here
      have hml := HA.ml
      have b1 := build_no
      have hS : Boxes w ((w.alloc (Obj.cells t.c 27)).alloc (Obj.cells #[.string key] 9)) [(w.heap.size, Obj.cells t.c 27), (w.heap.size + 1, Obj.cells #[.string key] 9)] := by
        have := ((Boxes.start w).alloc (Obj.cells t.c 27)).alloc (Obj.cells #[.string key] 9)
        simpa using this
      clear ht
      skip
      go_enter Tryz.func14, Tryz.ntmps14
      go_wp2_with (first | go_skip | (((with_reducible refine gate_op (op := .alloc 27) rfl ?_); generalize ((w.alloc (Obj.cells t.c 27)).alloc (Obj.cells #[Value.string key] 9)) = W0 at *; refine alloc_arm rfl 27 rfl (val_alloc _) ?_; intro wn hbn hgn; have hS1 := hS.new hbn hgn; clear hS hbn hgn; have hS := hS1; clear hS1); have c0 := (cell_of_row _ _ 0 _ _ _ (hS.at_ 0 rfl)).trans (show t.c[0]? = some (.int .i64 t.k) from rfl); have c4 := (cell_of_row _ _ 4 _ _ _ (hS.at_ 0 rfl)).trans (show t.c[4]? = some (.slice t.mA t.mn t.mc) from rfl)) | ((with_reducible refine gate_op (op := .store 27 (.tmp 4) (.tmp 10)) rfl ?_); refine wpList_store_row rfl 27 (.tmp 4) (.tmp 10) rfl _ (VT.c VT.no) rfl rfl 27 _ (hS.at_ 2 rfl) (VT.val_info _) rfl (VT.c_one _) ?_; intro wn hbn hgn hon hsn; have hS1 := hS.put 2 rfl hon hbn hgn; clear hS hbn hgn hon hsn; have hS := hS1; clear hS1))
      exact bodyPost_ret (v := (.tuple #[.agg (VT.c .no), .bool false])) (results_row_tmp rfl _ _ _ _ _ _ _ _ rfl rfl (hS.at_ 2 rfl) Tryz.underlying27 rfl (VT.val_info _)) rfl ⟨rfl, hS.below⟩
set_option maxRecDepth 100000 in
set_option maxHeartbeats 2000000 in
theorem vGet_n (t : VT) (key : ByteArray) (w : World) (ht : VT.In w.heap.size w t) (hk : (t.k != 6) = false) (h0 : StandsK t key (-1)) : Calls Tryz.prog 14 #[.agg t.c, .string key] w fun e w' => e = .returned (.tuple #[.agg (VT.c .no), .bool false]) ∧ Below w.heap.size w w' := by
  have HT := Lib.hid ht
  have HA := ht.here
  have hml := HA.ml
  have b1 := build_no
  have hS : Boxes w ((w.alloc (Obj.cells t.c 27)).alloc (Obj.cells #[.string key] 9)) [(w.heap.size, Obj.cells t.c 27), (w.heap.size + 1, Obj.cells #[.string key] 9)] := by
    have := ((Boxes.start w).alloc (Obj.cells t.c 27)).alloc (Obj.cells #[.string key] 9)
    simpa using this
  clear ht
  have H0 := Lib.hid h0; clear h0
  go_enter Tryz.func14, Tryz.ntmps14
  go_wp2_with (first | go_skip | (((with_reducible refine gate_op (op := .alloc 27) rfl ?_); generalize ((w.alloc (Obj.cells t.c 27)).alloc (Obj.cells #[Value.string key] 9)) = W0 at *; refine alloc_arm rfl 27 rfl (val_alloc _) ?_; intro wn hbn hgn; have hS1 := hS.new hbn hgn; clear hS hbn hgn; have hS := hS1; clear hS1); have c0 := (cell_of_row _ _ 0 _ _ _ (hS.at_ 0 rfl)).trans (show t.c[0]? = some (.int .i64 t.k) from rfl); have c4 := (cell_of_row _ _ 4 _ _ _ (hS.at_ 0 rfl)).trans (show t.c[4]? = some (.slice t.mA t.mn t.mc) from rfl)) | (go_at_call 45; (with_reducible (refine (indexP_any t key _ _ ((HT.out.move hS.below).up hS.below.size) (hS.at_ 1 rfl)).mono ?_)); rintro e wn ⟨⟨r, rfl, hr⟩, hbn⟩; obtain rfl := told_one hr H0.out; have hS1 := hS.step hbn; clear hS hbn hr c0 c4; have hS := hS1; clear hS1; have c4 := (cell_of_row _ _ 4 _ _ _ (hS.at_ 0 rfl)).trans (show t.c[4]? = some (.slice t.mA t.mn t.mc) from rfl)) | ((with_reducible refine gate_op (op := .store 27 (.tmp 4) (.tmp 17)) rfl ?_); refine wpList_store_row rfl 27 (.tmp 4) (.tmp 17) rfl _ (VT.c VT.no) rfl rfl 27 _ (hS.at_ 2 rfl) (VT.val_info _) rfl (VT.c_one _) ?_; intro wn hbn hgn hon hsn; have hS1 := hS.put 2 rfl hon hbn hgn; clear hS hbn hgn hon hsn; have hS := hS1; clear hS1))
  exact bodyPost_ret (v := (.tuple #[.agg (VT.c .no), .bool false])) (results_row_tmp rfl _ _ _ _ _ _ _ _ rfl rfl (hS.at_ 2 rfl) Tryz.underlying27 rfl (VT.val_info _)) rfl ⟨rfl, hS.below⟩
set_option maxRecDepth 100000 in
set_option maxHeartbeats 2000000 in
theorem vGet_y (t : VT) (key : ByteArray) (w : World) (ht : VT.In w.heap.size w t) (hk : (t.k != 6) = false) (i : Nat) (hi : i < t.mn) (h0 : StandsK t key (i : Int)) : Calls Tryz.prog 14 #[.agg t.c, .string key] w fun e w' => e = .returned (.tuple #[.agg (VT.c (t.mt i)), .bool true]) ∧ Below w.heap.size w w' := by
  have HT := Lib.hid ht
  have HA := ht.here
  have hml := HA.ml
  have b1 := build_no
  have hS : Boxes w ((w.alloc (Obj.cells t.c 27)).alloc (Obj.cells #[.string key] 9)) [(w.heap.size, Obj.cells t.c 27), (w.heap.size + 1, Obj.cells #[.string key] 9)] := by
    have := ((Boxes.start w).alloc (Obj.cells t.c 27)).alloc (Obj.cells #[.string key] 9)
    simpa using this
  clear ht
  have H0 := Lib.hid h0; clear h0; have xa := HA.mix hi
  go_enter Tryz.func14, Tryz.ntmps14
  go_wp2_with (first | go_skip | (((with_reducible refine gate_op (op := .alloc 27) rfl ?_); generalize ((w.alloc (Obj.cells t.c 27)).alloc (Obj.cells #[Value.string key] 9)) = W0 at *; refine alloc_arm rfl 27 rfl (val_alloc _) ?_; intro wn hbn hgn; have hS1 := hS.new hbn hgn; clear hS hbn hgn; have hS := hS1; clear hS1); have c0 := (cell_of_row _ _ 0 _ _ _ (hS.at_ 0 rfl)).trans (show t.c[0]? = some (.int .i64 t.k) from rfl); have c4 := (cell_of_row _ _ 4 _ _ _ (hS.at_ 0 rfl)).trans (show t.c[4]? = some (.slice t.mA t.mn t.mc) from rfl)) | (go_at_call 45; (with_reducible (refine (indexP_any t key _ _ ((HT.out.move hS.below).up hS.below.size) (hS.at_ 1 rfl)).mono ?_)); rintro e wn ⟨⟨r, rfl, hr⟩, hbn⟩; obtain rfl := told_one hr H0.out; have hS1 := hS.step hbn; clear hS hbn hr c0 c4; have hS := hS1; clear hS1; have c4 := (cell_of_row _ _ 4 _ _ _ (hS.at_ 0 rfl)).trans (show t.c[4]? = some (.slice t.mA t.mn t.mc) from rfl)) | (refine load_cells rfl 27 (.tmp 22) rfl _ _ rfl _ _ ((HA.move hS.below).mval hi) Tryz.underlying27 rfl (VT.val_info _) ?_) | ((with_reducible refine gate_op (op := .store 27 (.tmp 4) (.tmp 23)) rfl ?_); refine wpList_store_row rfl 27 (.tmp 4) (.tmp 23) rfl _ (VT.c (t.mt i)) rfl rfl 27 _ (hS.at_ 2 rfl) (VT.val_info _) rfl (VT.c_one _) ?_; intro wn hbn hgn hon hsn; have hS1 := hS.put 2 rfl hon hbn hgn; clear hS hbn hgn hon hsn; have hS := hS1; clear hS1))
  exact bodyPost_ret (v := (.tuple #[.agg (VT.c (t.mt i)), .bool true])) (results_row_tmp rfl _ _ _ _ _ _ _ _ rfl rfl (hS.at_ 2 rfl) Tryz.underlying27 rfl (VT.val_info _)) rfl ⟨rfl, hS.below⟩
theorem vGet_any (t : VT) (key : ByteArray) (w : World) (ht : VT.In w.heap.size w t) : Calls Tryz.prog 14 #[.agg t.c, .string key] w fun e w' => e = .returned (.tuple #[.agg (getV t key).1.c, .bool (getV t key).2]) ∧ Below w.heap.size w w' := by
  have go : ∀ {r : VT × Bool}, getV t key = r → (Calls Tryz.prog 14 #[.agg t.c, .string key] w fun e w' => e = .returned (.tuple #[.agg r.1.c, .bool r.2]) ∧ Below w.heap.size w w') → Calls Tryz.prog 14 #[.agg t.c, .string key] w fun e w' => e = .returned (.tuple #[.agg (getV t key).1.c, .bool (getV t key).2]) ∧ Below w.heap.size w w' := fun h k => by rw [h]; exact k
  by_cases hk : t.k = 6
  · have hk2 : (t.k != 6) = false := by simp [hk]
    obtain ⟨r, h0⟩ := told_ex t key
    rcases h0 with ⟨i, hi, rfl, hq, hn⟩ | ⟨rfl, hn⟩
    · exact go (r := (t.mt i, true)) (by unfold getV; rw [if_pos hk, find_some hi hq hn]) (vGet_y t key w ht hk2 i hi (.inl ⟨i, hi, rfl, hq, hn⟩))
    · exact go (r := (.no, false)) (by unfold getV; rw [if_pos hk, find_none hn]) (vGet_n t key w ht hk2 (.inr ⟨rfl, hn⟩))
  · exact go (r := (.no, false)) (by unfold getV; rw [if_neg hk]) (vGet_x t key w ht (by simpa using hk))
end Go.Proofs.YtcpmehppfccihaaGreatDoor
