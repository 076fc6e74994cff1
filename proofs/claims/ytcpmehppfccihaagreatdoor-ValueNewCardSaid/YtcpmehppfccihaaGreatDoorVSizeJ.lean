/-
  value.Size, value.Deep tell what is written here, for all trees. No condition.
-/
import Derived.Test.YtcpmehppfccihaaGreatDoorJ6
import Derived.Test.YtcpmehppfccihaaGreatDoorRowPartJ
namespace Go.Proofs.YtcpmehppfccihaaGreatDoor
open Go.RowKit
set_option linter.unusedVariables false
set_option linter.unusedSimpArgs false
set_option linter.unusedSectionVars false
def sumTo (f : Nat → Int) : Nat → Int → Int
  | 0, a => a
  | k + 1, a => wrap64 (sumTo f k a + f k)
def mostTo (f : Nat → Int) : Nat → Int → Int
  | 0, a => a
  | k + 1, a => if mostTo f k a < f k then f k else mostTo f k a
def sizeW : VT → Int
  | .no => 1
  | .mk _ _ _ _ _ _ ln _ lt _ _ _ mn _ _ mt => sumTo (fun i => sizeW (mt i)) mn (sumTo (fun i => sizeW (lt i)) ln 1)
theorem sizeW_eq (t : VT) : sizeW t = sumTo (fun i => sizeW (t.mt i)) t.mn (sumTo (fun i => sizeW (t.lt i)) t.ln 1) := by cases t <;> rfl
def deepW : VT → Int
  | .no => 1
  | .mk _ _ _ _ _ _ ln _ lt _ _ _ mn _ _ mt => wrap64 (mostTo (fun i => deepW (mt i)) mn (mostTo (fun i => deepW (lt i)) ln 0) + 1)
theorem deepW_eq (t : VT) : deepW t = wrap64 (mostTo (fun i => deepW (t.mt i)) t.mn (mostTo (fun i => deepW (t.lt i)) t.ln 0) + 1) := by
  cases t with
  | no => show (1 : Int) = wrap64 (0 + 1); unfold wrap64; omega
  | mk => rfl
theorem Sees.less {w0 W : World} {L L' : List (Nat × Obj)} (h : Sees w0 W L) (hs : ∀ p ∈ L', p ∈ L) : Sees w0 W L' := ⟨h.below, fun p hp => h.rows p (hs p hp)⟩
theorem VT.pc_val (t : VT) (i : Nat) : ∀ (j : Nat) (v : Value), (t.mt i).c[j]? = some v → (t.pc i)[1 + j]? = some v := by
  intro j v hv
  rw [show 1 + j = j + 1 by omega, ← hv]
  simp [VT.pc, VT.c]
def SizeOk (t : VT) : Prop := ∀ (w : World), VT.In w.heap.size w t → Calls Tryz.prog 34 #[.agg t.c] w fun e w' => e = .returned (.int .i64 (sizeW t)) ∧ Below w.heap.size w w'
def DeepOk (t : VT) : Prop := ∀ (w : World), VT.In w.heap.size w t → Calls Tryz.prog 33 #[.agg t.c] w fun e w' => e = .returned (.int .i64 (deepW t)) ∧ Below w.heap.size w w'
set_option maxRecDepth 100000 in
set_option maxHeartbeats 4000000 in
theorem vsize_go (t : VT) (w : World) (ht : VT.In w.heap.size w t) (ihl : ∀ i, i < t.ln → SizeOk (t.lt i)) (ihm : ∀ i, i < t.mn → SizeOk (t.mt i)) : Calls Tryz.prog 34 #[.agg t.c] w fun e w' => e = .returned (.int .i64 (sizeW t)) ∧ Below w.heap.size w w' := by
  have hh : Hid (sizeW t = sumTo (fun i => sizeW (t.mt i)) t.mn (sumTo (fun i => sizeW (t.lt i)) t.ln 1)) := sizeW_eq t
  have IL := Lib.hid ihl
  have IM := Lib.hid ihm
  clear ihl ihm
  have a3 : t.c[3]? = some (.slice t.lA t.ln t.lc) := rfl
  have a4 : t.c[4]? = some (.slice t.mA t.mn t.mc) := rfl
  have HA := ht.here
  have hll := HA.ll
  have hml := HA.ml
  have HT := Lib.hid ht
  clear ht
  have hS0 : Sees w (w.alloc (Obj.cells t.c 27)) [(w.heap.size, Obj.cells t.c 27)] := (Sees.start w).alloc _
  go_enter Tryz.func34, Tryz.ntmps34
  go_wp2_with go_skip
  go_loopw [3, 11] (fun nv iv wr => ∃ i : Nat, i ≤ t.ln ∧ iv = .int .i64 (i : Int) ∧ nv = .int .i64 (sumTo (fun i => sizeW (t.lt i)) i 1) ∧ Sees w wr [(w.heap.size, Obj.cells t.c 27)]) (fun _ iv _ => t.ln - (intOf iv).toNat)
  case atStart => exact ⟨0, Nat.zero_le _, rfl, rfl, hS0⟩
  case round =>
    rename_i wr
    obtain ⟨i, hi, rfl, rfl, hS⟩ := hrel
    by_cases hlt : i < t.ln
    · have hltb : decide ((i : Int) < t.ln) = true := by simp; omega
      have xa := HA.lix hlt
      have LA := Lib.hid ((HA.move (hS.below)).lcell i hlt)
      have HK := Lib.hid (fun W (hb : Below w.heap.size w W) => IL.out i hlt W (((HT.out.l i hlt).move hb).up hb.size))
      have hnx : Hid (sumTo (fun i => sizeW (t.lt i)) (i + 1) 1 = wrap64 (sumTo (fun i => sizeW (t.lt i)) i 1 + sizeW (t.lt i))) := rfl
      generalize sizeW (t.lt i) = x at *
      generalize sumTo (fun i => sizeW (t.lt i)) i 1 = y at *
      go_wp2_with (first | go_skip | (refine load_cells rfl 27 (.tmp 13) rfl _ _ rfl _ _ LA.out Tryz.underlying27 rfl (VT.val_info _) ?_) | (refine wpList_store_row rfl 27 (.tmp 5) (.tmp 14) rfl _ (t.lt i).c rfl rfl 27 _ (heap_alloc_new _ _) (VT.val_info _) rfl (VT.c_one _) ?_; intro wn hbn hgn hon hsn; have hS1 := hS.box hon hbn hgn; clear hS hbn hgn hon hsn; have hS := hS1; clear hS1; skip) | (refine wpList_load_row' rfl 27 (.tmp 5) rfl _ rfl 27 _ (0, 0) _ hS.g1 Tryz.underlying27 rfl (VT.val_info _) ?_) | (go_at_call 34; with_reducible (refine (HK.out _ hS.below).mono ?_); rintro e wn ⟨rfl, hbn⟩; have hS1 := hS.step hbn; clear hS hbn; have hS := hS1; clear hS1))
      go_roundw
      case rel => exact ⟨i + 1, by omega, by go_num, (by rw [hnx.out]; try first | rfl | (congr 1; (repeat' split) <;> first | rfl | omega)), hS.less (fun p hp => by cases List.mem_singleton.1 hp; exact List.mem_cons_self)⟩
      case measure => simp [intOf]; omega
    · have hge : decide ((i : Int) < t.ln) = false := by simp; omega
      obtain rfl : i = t.ln := by omega
      generalize hz : sumTo (fun i => sizeW (t.lt i)) t.ln 1 = z at *
      have hh := Lib.hid hh.out
      clear hz
      have c4 : wr.cell? ⟨w.heap.size, 4, none⟩ = some (.slice t.mA t.mn t.mc) := (cell_of_row _ _ _ _ _ _ hS.g0).trans a4
      go_wp2_with go_skip
      go_loopw [3, 23] (fun nv iv wr => ∃ i : Nat, i ≤ t.mn ∧ iv = .int .i64 (i : Int) ∧ nv = .int .i64 (sumTo (fun i => sizeW (t.mt i)) i z) ∧ Sees w wr [(w.heap.size, Obj.cells t.c 27)]) (fun _ iv _ => t.mn - (intOf iv).toNat)
      case atStart => exact ⟨0, Nat.zero_le _, rfl, rfl, hS⟩
      case round =>
        clear hS c4 hS0
        rename_i wr
        obtain ⟨i, hi, rfl, rfl, hS⟩ := hrel
        by_cases hlt : i < t.mn
        · have hltb : decide ((i : Int) < t.mn) = true := by simp; omega
          have xa := HA.mix hlt
          have LA := Lib.hid ((HA.move (hS.below)).mcell i hlt)
          have HK := Lib.hid (fun W (hb : Below w.heap.size w W) => IM.out i hlt W (((HT.out.m i hlt).move hb).up hb.size))
          have hnx : Hid (sumTo (fun i => sizeW (t.mt i)) (i + 1) z = wrap64 (sumTo (fun i => sizeW (t.mt i)) i z + sizeW (t.mt i))) := rfl
          generalize hx0 : sizeW (t.mt i) = x at *
          generalize sumTo (fun i => sizeW (t.mt i)) i z = y at *
          go_wp2_with (first | go_skip | (refine load_cells rfl 34 (.tmp 25) rfl _ _ rfl _ _ LA.out Tryz.underlying34 rfl (VT.pair_info _ _) ?_) | (refine wpList_store_row rfl 34 (.tmp 7) (.tmp 26) rfl _ (t.pc i) rfl rfl 34 _ (heap_alloc_new _ _) (VT.pair_info _ _) rfl (VT.pc_one _ _) ?_; intro wn hbn hgn hon hsn; have hS1 := hS.box hon hbn hgn; clear hS hbn hgn hon hsn; have hS := hS1; clear hS1; skip) | (refine load_part rfl 27 (.tmp 28) rfl _ 1 rfl _ _ (0, 0) _ _ hS.g1 (VT.pc_val t i) Tryz.underlying27 rfl (VT.val_info _) ?_) | (go_at_call 34; with_reducible (refine (HK.out _ hS.below).mono ?_); rintro e wn ⟨rfl, hbn⟩; have hS1 := hS.step hbn; clear hS hbn; have hS := hS1; clear hS1))
          go_roundw
          case rel => exact ⟨i + 1, by omega, by go_num, (by rw [hnx.out]; try first | rfl | (congr 1; (repeat' split) <;> first | rfl | omega)), hS.less (fun p hp => by cases List.mem_singleton.1 hp; exact List.mem_cons_self)⟩
          case measure => simp [intOf]; omega
        · have hge : decide ((i : Int) < t.mn) = false := by simp; omega
          obtain rfl : i = t.mn := by omega
          go_wp2_with go_skip
          go_ret
          exact ⟨congrArg (fun n => Ending.returned (Value.int .i64 n)) hh.out.symm, hS.below⟩
set_option maxRecDepth 100000 in
set_option maxHeartbeats 4000000 in
theorem vdeep_go (t : VT) (w : World) (ht : VT.In w.heap.size w t) (ihl : ∀ i, i < t.ln → DeepOk (t.lt i)) (ihm : ∀ i, i < t.mn → DeepOk (t.mt i)) : Calls Tryz.prog 33 #[.agg t.c] w fun e w' => e = .returned (.int .i64 (deepW t)) ∧ Below w.heap.size w w' := by
  have hh : Hid (deepW t = wrap64 (mostTo (fun i => deepW (t.mt i)) t.mn (mostTo (fun i => deepW (t.lt i)) t.ln 0) + 1)) := deepW_eq t
  have IL := Lib.hid ihl
  have IM := Lib.hid ihm
  clear ihl ihm
  have a3 : t.c[3]? = some (.slice t.lA t.ln t.lc) := rfl
  have a4 : t.c[4]? = some (.slice t.mA t.mn t.mc) := rfl
  have HA := ht.here
  have hll := HA.ll
  have hml := HA.ml
  have HT := Lib.hid ht
  clear ht
  have hS0 : Sees w (w.alloc (Obj.cells t.c 27)) [(w.heap.size, Obj.cells t.c 27)] := (Sees.start w).alloc _
  go_enter Tryz.func33, Tryz.ntmps33
  go_wp2_with go_skip
  go_loopw [3, 11] (fun nv iv wr => ∃ i : Nat, i ≤ t.ln ∧ iv = .int .i64 (i : Int) ∧ nv = .int .i64 (mostTo (fun i => deepW (t.lt i)) i 0) ∧ Sees w wr [(w.heap.size, Obj.cells t.c 27)]) (fun _ iv _ => t.ln - (intOf iv).toNat)
  case atStart => exact ⟨0, Nat.zero_le _, rfl, rfl, hS0⟩
  case round =>
    rename_i wr
    obtain ⟨i, hi, rfl, rfl, hS⟩ := hrel
    by_cases hlt : i < t.ln
    · have hltb : decide ((i : Int) < t.ln) = true := by simp; omega
      have xa := HA.lix hlt
      have LA := Lib.hid ((HA.move (hS.below)).lcell i hlt)
      have HK := Lib.hid (fun W (hb : Below w.heap.size w W) => IL.out i hlt W (((HT.out.l i hlt).move hb).up hb.size))
      have hnx : Hid (mostTo (fun i => deepW (t.lt i)) (i + 1) 0 = if mostTo (fun i => deepW (t.lt i)) i 0 < deepW (t.lt i) then deepW (t.lt i) else mostTo (fun i => deepW (t.lt i)) i 0) := rfl
      generalize deepW (t.lt i) = x at *
      generalize mostTo (fun i => deepW (t.lt i)) i 0 = y at *
      go_wp2_with (first | go_skip | (refine load_cells rfl 27 (.tmp 13) rfl _ _ rfl _ _ LA.out Tryz.underlying27 rfl (VT.val_info _) ?_) | (refine wpList_store_row rfl 27 (.tmp 5) (.tmp 14) rfl _ (t.lt i).c rfl rfl 27 _ (heap_alloc_new _ _) (VT.val_info _) rfl (VT.c_one _) ?_; intro wn hbn hgn hon hsn; have hS1 := hS.box hon hbn hgn; clear hS hbn hgn hon hsn; have hS := hS1; clear hS1; skip) | (refine wpList_load_row' rfl 27 (.tmp 5) rfl _ rfl 27 _ (0, 0) _ hS.g1 Tryz.underlying27 rfl (VT.val_info _) ?_) | (go_at_call 33; with_reducible (refine (HK.out _ hS.below).mono ?_); rintro e wn ⟨rfl, hbn⟩; have hS1 := hS.step hbn; clear hS hbn; have hS := hS1; clear hS1))
      go_roundw
      case rel => exact ⟨i + 1, by omega, by go_num, (by rw [hnx.out]; try first | rfl | (congr 1; (repeat' split) <;> first | rfl | omega)), hS.less (fun p hp => by cases List.mem_singleton.1 hp; exact List.mem_cons_self)⟩
      case measure => simp [intOf]; omega
    · have hge : decide ((i : Int) < t.ln) = false := by simp; omega
      obtain rfl : i = t.ln := by omega
      generalize hz : mostTo (fun i => deepW (t.lt i)) t.ln 0 = z at *
      have hh := Lib.hid hh.out
      clear hz
      have c4 : wr.cell? ⟨w.heap.size, 4, none⟩ = some (.slice t.mA t.mn t.mc) := (cell_of_row _ _ _ _ _ _ hS.g0).trans a4
      go_wp2_with go_skip
      go_loopw [3, 23] (fun nv iv wr => ∃ i : Nat, i ≤ t.mn ∧ iv = .int .i64 (i : Int) ∧ nv = .int .i64 (mostTo (fun i => deepW (t.mt i)) i z) ∧ Sees w wr [(w.heap.size, Obj.cells t.c 27)]) (fun _ iv _ => t.mn - (intOf iv).toNat)
      case atStart => exact ⟨0, Nat.zero_le _, rfl, rfl, hS⟩
      case round =>
        clear hS c4 hS0
        rename_i wr
        obtain ⟨i, hi, rfl, rfl, hS⟩ := hrel
        by_cases hlt : i < t.mn
        · have hltb : decide ((i : Int) < t.mn) = true := by simp; omega
          have xa := HA.mix hlt
          have LA := Lib.hid ((HA.move (hS.below)).mcell i hlt)
          have HK := Lib.hid (fun W (hb : Below w.heap.size w W) => IM.out i hlt W (((HT.out.m i hlt).move hb).up hb.size))
          have hnx : Hid (mostTo (fun i => deepW (t.mt i)) (i + 1) z = if mostTo (fun i => deepW (t.mt i)) i z < deepW (t.mt i) then deepW (t.mt i) else mostTo (fun i => deepW (t.mt i)) i z) := rfl
          generalize hx0 : deepW (t.mt i) = x at *
          generalize mostTo (fun i => deepW (t.mt i)) i z = y at *
          go_wp2_with (first | go_skip | (refine load_cells rfl 34 (.tmp 25) rfl _ _ rfl _ _ LA.out Tryz.underlying34 rfl (VT.pair_info _ _) ?_) | (refine wpList_store_row rfl 34 (.tmp 7) (.tmp 26) rfl _ (t.pc i) rfl rfl 34 _ (heap_alloc_new _ _) (VT.pair_info _ _) rfl (VT.pc_one _ _) ?_; intro wn hbn hgn hon hsn; have hS1 := hS.box hon hbn hgn; clear hS hbn hgn hon hsn; have hS := hS1; clear hS1; skip) | (refine load_part rfl 27 (.tmp 28) rfl _ 1 rfl _ _ (0, 0) _ _ hS.g1 (VT.pc_val t i) Tryz.underlying27 rfl (VT.val_info _) ?_) | (go_at_call 33; with_reducible (refine (HK.out _ hS.below).mono ?_); rintro e wn ⟨rfl, hbn⟩; have hS1 := hS.step hbn; clear hS hbn; have hS := hS1; clear hS1))
          go_roundw
          case rel => exact ⟨i + 1, by omega, by go_num, (by rw [hnx.out]; try first | rfl | (congr 1; (repeat' split) <;> first | rfl | omega)), hS.less (fun p hp => by cases List.mem_singleton.1 hp; exact List.mem_cons_self)⟩
          case measure => simp [intOf]; omega
        · have hge : decide ((i : Int) < t.mn) = false := by simp; omega
          obtain rfl : i = t.mn := by omega
          go_wp2_with go_skip
          go_ret
          exact ⟨congrArg (fun n => Ending.returned (Value.int .i64 n)) hh.out.symm, hS.below⟩
theorem vsize_v (t : VT) : SizeOk t := by
  have key : ∀ t : VT, (∀ i, i < t.ln → SizeOk (t.lt i)) → (∀ i, i < t.mn → SizeOk (t.mt i)) → SizeOk t := fun t ihl ihm w ht => vsize_go t w ht ihl ihm
  induction t with
  | no => exact key .no (fun i hi => absurd hi (Nat.not_lt_zero i)) (fun i hi => absurd hi (Nat.not_lt_zero i))
  | mk k n s lA lb lo ln lc lt mA mb mo mn mc ky mt ihl ihm => exact key (.mk k n s lA lb lo ln lc lt mA mb mo mn mc ky mt) (fun i _ => ihl i) (fun i _ => ihm i)
theorem vdeep_v (t : VT) : DeepOk t := by
  have key : ∀ t : VT, (∀ i, i < t.ln → DeepOk (t.lt i)) → (∀ i, i < t.mn → DeepOk (t.mt i)) → DeepOk t := fun t ihl ihm w ht => vdeep_go t w ht ihl ihm
  induction t with
  | no => exact key .no (fun i hi => absurd hi (Nat.not_lt_zero i)) (fun i hi => absurd hi (Nat.not_lt_zero i))
  | mk k n s lA lb lo ln lc lt mA mb mo mn mc ky mt ihl ihm => exact key (.mk k n s lA lb lo ln lc lt mA mb mo mn mc ky mt) (fun i _ => ihl i) (fun i _ => ihm i)
end Go.Proofs.YtcpmehppfccihaaGreatDoor
