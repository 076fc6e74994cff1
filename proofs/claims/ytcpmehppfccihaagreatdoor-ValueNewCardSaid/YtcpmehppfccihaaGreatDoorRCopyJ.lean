/-
  The reference's Copy tells a tree alike, in blocks of its own. No condition.
-/
import Derived.Test.YtcpmehppfccihaaGreatDoorRCopyRJ
namespace Go.Proofs.YtcpmehppfccihaaGreatDoor
open Go.RowKit
set_option linter.unusedVariables false
set_option linter.unusedSimpArgs false
set_option linter.unusedSectionVars false
def RCopyOk (t : VT) : Prop := ∀ w, VT.In w.heap.size w t → VT.Sm t → Calls Tryz.prog 28 #[.agg t.c] w fun e w' => ∃ y : VT, e = .returned (.agg y.c) ∧ Cpy w.heap.size t y w' ∧ Below w.heap.size w w'
theorem valInfo3 : (Tryz.prog.info? 27).map (fun i => (i.zero, i.size, i.bytes)) = some (some (.agg VT.no.c), 5, 80) := by kernel_rfl
theorem pairInfo3 : (Tryz.prog.info? 34).map (fun i => (i.zero, i.size, i.bytes)) = some (some (.agg (pcK ⟨#[]⟩ .no)), 6, 96) := by kernel_rfl
theorem outC_one (t : VT) {a b : Value} (ha : a.oneCell' = true) (hb : b.oneCell' = true) : (outC t a b).all (·.oneCell') = true := by
  simp [outC, Value.oneCell'] at *
  exact ⟨ha, hb⟩
theorem own_one {w : World} {base : Nat} {e : TypeId} {size : Nat} {v : Value} {n : Nat} {xs : List Value} (h : w.ownsRow base e size v n xs) : v.oneCell' = true := by
  rcases h.2 with ⟨rfl, _⟩ | ⟨g, cap, cur, rfl, _⟩ <;> rfl
set_option maxRecDepth 100000 in
set_option maxHeartbeats 2000000 in
theorem rcopy_go (t : VT) (w : World) (ht : VT.In w.heap.size w t) (hs : VT.Sm t) (ihl : ∀ i, i < t.ln → RCopyOk (t.lt i)) (ihm : ∀ i, i < t.mn → RCopyOk (t.mt i)) : Calls Tryz.prog 28 #[.agg t.c] w fun e w' => ∃ y : VT, e = .returned (.agg y.c) ∧ Cpy w.heap.size t y w' ∧ Below w.heap.size w w' := by
  have IL := Lib.hid ihl
  have IM := Lib.hid ihm
  have SM := Lib.hid hs
  clear ihl ihm hs
  have HA := ht.here
  have hll := HA.ll
  have hml := HA.ml
  have HT := Lib.hid ht
  clear ht
  have hS : Boxes w (w.alloc (Obj.cells t.c 27)) [(w.heap.size, Obj.cells t.c 27)] := (Boxes.start w).alloc (Obj.cells t.c 27)
  have hz0 : (w.alloc (Obj.cells t.c 27)).heap.size = w.heap.size + 1 := Array.size_push ..
  go_enter Tryz.func28, Tryz.ntmps28
  go_wp2_with (first | go_skip | ((with_reducible refine gate_op (op := .alloc 27) rfl ?_); generalize (w.alloc (Obj.cells t.c 27)) = W0 at *; refine alloc_armz rfl 27 rfl (val_alloc _) ?_; intro wn hbn hgn hzn; rw [hz0] at hzn; have hS1 := hS.new hbn hgn; rw [hz0] at hS1 ⊢; (try simp only [List.nil_append, List.cons_append, List.set_cons_zero, List.set_cons_succ] at hS1); clear hS hbn hgn hz0; have hS := hS1; have hz0 := hzn; clear hS1 hzn; try (rename World => W0)) | ((with_reducible refine gate_op (op := .load 27 (.tmp 1)) rfl ?_); refine wpList_load_row' rfl 27 (.tmp 1) rfl _ rfl 27 _ (0, 0) _ (hS.at_ 0 rfl) Tryz.underlying27 rfl (VT.val_info t) ?_) | ((with_reducible refine gate_op (op := .store 27 (.tmp 3) (.tmp 6)) rfl ?_); refine wpList_store_row rfl 27 (.tmp 3) (.tmp 6) rfl _ (VT.c t) rfl rfl 27 _ (hS.at_ 2 rfl) (VT.val_info _) rfl (VT.c_one _) ?_; intro wn hbn hgn hon hsn; have hS1 := hS.put 2 rfl hon hbn hgn; (try simp only [List.nil_append, List.cons_append, List.set_cons_zero, List.set_cons_succ] at hS1); clear hS hbn hgn hon hsn; have hS := hS1; clear hS1) | ((with_reducible refine gate_op (op := .store 24 (.tmp 7) (.const (.slice none 0 0))) rfl ?_); (refine store_elem rfl 24 (.tmp 7) _ rfl _ 3 _ rfl rfl rfl 27 _ _ (hS.at_ 2 rfl) rfl (by kernel_rfl) ?_; intro wn hgn hon hbn hsn; have hS1 := hS.put 2 rfl hon hbn hgn; (try simp only [List.nil_append, List.cons_append, List.set_cons_zero, List.set_cons_succ] at hS1); clear hS hbn hgn hon hsn; have hS := hS1; clear hS1)) | ((with_reducible refine gate_op (op := .store 25 (.tmp 8) (.const (.slice none 0 0))) rfl ?_); (refine store_elem rfl 25 (.tmp 8) _ rfl _ 4 _ rfl rfl rfl 27 _ _ (hS.at_ 2 rfl) rfl (by kernel_rfl) ?_; intro wn hgn hon hbn hsn; have hS1 := hS.put 2 rfl hon hbn hgn; (try simp only [List.nil_append, List.cons_append, List.set_cons_zero, List.set_cons_succ] at hS1); clear hS hbn hgn hon hsn; have hS := hS1; clear hS1)))
  rename World => w3
  have hI : RcI t w 0 0 (.slice none 0 0) (.slice none 0 0) (fun _ => .no) (fun _ => .no) w3 := by
    have hz : w.heap.size + 1 + 1 < w3.heap.size := hS.lt 2 rfl
    exact ⟨hS.below, hS.at_ 0 rfl, hS.at_ 1 rfl, hS.at_ 2 rfl, hz, World.ownsRow_nil _ _ _ _, World.ownsRow_nil _ _ _ _, (fun b e => by cases e), fun k hk => absurd hk (Nat.not_lt_zero k), fun k hk => absurd hk (Nat.not_lt_zero k)⟩
  clear hS hz0
  obtain ⟨iv, hiv, hz3⟩ := Option.map_eq_some_iff.1 valInfo3
  obtain ⟨ip, hip, hz4⟩ := Option.map_eq_some_iff.1 pairInfo3
  have IV : Hid (iv.zero = some (.agg VT.no.c) ∧ iv.size = 5 ∧ iv.bytes = 80) := by
    injection hz3 with e1 e2
    injection e2 with e2 e3
    exact ⟨e1, e2, e3⟩
  have IP : Hid (ip.zero = some (.agg (pcK ⟨#[]⟩ .no)) ∧ ip.size = 6 ∧ ip.bytes = 96) := by
    injection hz4 with e1 e2
    injection e2 with e2 e3
    exact ⟨e1, e2, e3⟩
  have HIV := Lib.hid hiv
  have HIP := Lib.hid hip
  clear hz3 hz4 hiv hip
  go_loopw [4] (fun nv wr => ∃ (i : Nat) (sL : Value) (F : Nat → VT), i ≤ t.ln ∧ nv = .int .i64 (i : Int) ∧ RcI t w i 0 sL (.slice none 0 0) F (fun _ => .no) wr) (fun nv _ => t.ln - (intOf nv).toNat)
  case atStart => exact ⟨0, _, _, Nat.zero_le _, rfl, hI⟩
  case round =>
    clear hI
    rename_i wr
    obtain ⟨i, sL, F, hi, rfl, hI⟩ := hrel
    have HI := Lib.hid hI
    have c3 : wr.cell? ⟨w.heap.size, 3, none⟩ = some (.slice t.lA t.ln t.lc) := cell_of_row _ _ 3 _ _ _ hI.box
    by_cases hlt : i < t.ln
    · have hltb : decide ((i : Int) < t.ln) = true := by simp; omega
      clear hI
      go_wp2_with go_skip
      refine regRC7 (by kernel_rfl) (b1 := w.heap.size) (b3 := w.heap.size + 2) (i := i) (t := t) (sL := sL) (sM := .slice none 0 0) (of_decide_eq_true (by kernel_rfl)) rfl rfl rfl hlt HI.out.box HI.out.out ((HT.out.move HI.out.below).up HI.out.below.size) (fun W hb => IL.out i hlt W ((((HT.out.move HI.out.below).up HI.out.below.size).l i hlt).move hb |>.up hb.size) (SM.out.l i hlt)) ?_
      intro θ wY b y e1 e8 hrow hy hY
      simp only [seqTo, dstOf, Act.put, List.getElem?_toArray, List.getElem?_cons_zero, List.getElem?_cons_succ, Option.bind_some, List.setIfInBounds_toArray, List.set_cons_zero, List.set_cons_succ, List.drop_succ_cons, List.drop_zero]
      rw [e1, e8]
      clear e1 e8 c3
      have hL0 := HI.out.ownL.kept (grown_of hY none) (own_not fun b _ e => by cases e)
      refine wpList_append_own_at wY rfl (.tmp 17) (.tmp 24) 24 rfl (w.heap.size + 3) 27 iv (.agg VT.no.c) 5 80 Tryz.underlying24 HIV.out IV.out.1 IV.out.2.1 IV.out.2.2 rfl (by decide) sL i _ rfl hL0 ⟨b, 0, none⟩ 1 1 y.c.toList rfl rfl (fun j u hu => by rw [add_at, Nat.zero_add, cell_of_row wY b j _ _ _ hrow, ← Array.getElem?_toList]; exact hu) (all_mem (VT.c_one _)) (by unfold maxLen; omega) (by have := SM.out.l0; omega) (Nat.le_trans HI.out.size hY.size) ?_
      intro v' w1 hown' hgrow _ hat
      have hb3 : w1.heap[w.heap.size + 2]? = some (.cells (outC t sL (.slice none 0 0)) 27 (0, 0)) := (hgrow.block _ (by have := HI.out.size; have := hY.size; omega) (fun e => by have := (own_at HI.out.ownL e.symm).1; omega)).trans ((hY.block _ (by have := HI.out.size; omega)).trans HI.out.out)
      have HN := Lib.hid (fun wn hgn hon hbn hsn => HI.out.nextL (W3 := wn) hY hy hown' hgrow hat hgn hbn hon hsn)
      have HO := Lib.hid (own_one hown')
      have HB := Lib.hid hb3
      clear hL0 hown' hgrow hat hrow hy hY hb3
      go_wp2_with (first | go_skip | (refine store_elem rfl 24 (.tmp 26) _ rfl (w.heap.size + 2) 3 v' rfl rfl HO.out 27 _ _ HB.out rfl (by kernel_rfl) ?_; intro wn hgn hon hbn hsn; have hN := Lib.hid (HN.out wn hgn hon hbn hsn); clear hgn hon hbn hsn))
      go_roundw
      case rel => exact ⟨i + 1, v', _, by omega, by go_num, hN.out⟩
      case measure => simp [intOf]; omega
    · have hge : decide ((i : Int) < t.ln) = false := by simp; omega
      obtain rfl : i = t.ln := by omega
      clear hI
      go_wp2_with go_skip
      go_loopw [5] (fun nv wr => ∃ (i : Nat) (sM : Value) (G : Nat → VT), i ≤ t.mn ∧ nv = .int .i64 (i : Int) ∧ RcI t w t.ln i sL sM F G wr) (fun nv _ => t.mn - (intOf nv).toNat)
      case atStart => exact ⟨0, _, _, Nat.zero_le _, rfl, HI.out⟩
      case round =>
        clear HI c3
        rename_i wr
        obtain ⟨i, sM, G, hi, rfl, hI⟩ := hrel
        have HI := Lib.hid hI
        have c4 : wr.cell? ⟨w.heap.size, 4, none⟩ = some (.slice t.mA t.mn t.mc) := cell_of_row _ _ 4 _ _ _ hI.box
        by_cases hlt : i < t.mn
        · have hltb : decide ((i : Int) < t.mn) = true := by simp; omega
          clear hI
          go_wp2_with go_skip
          refine regRC11 (by kernel_rfl) (b1 := w.heap.size) (b3 := w.heap.size + 2) (i := i) (t := t) (sL := sL) (sM := sM) (of_decide_eq_true (by kernel_rfl)) rfl rfl rfl hlt HI.out.box HI.out.out ((HT.out.move HI.out.below).up HI.out.below.size) (fun W hb => IM.out i hlt W ((((HT.out.move HI.out.below).up HI.out.below.size).m i hlt).move hb |>.up hb.size) (SM.out.m i hlt)) ?_
          intro θ wY b y e1 e16 hrow hy hY
          simp only [seqTo, dstOf, Act.put, List.getElem?_toArray, List.getElem?_cons_zero, List.getElem?_cons_succ, Option.bind_some, List.setIfInBounds_toArray, List.set_cons_zero, List.set_cons_succ, List.drop_succ_cons, List.drop_zero]
          rw [e1, e16]
          clear e1 e16 c4
          have hL0 := HI.out.ownM.kept (grown_of hY none) (own_not fun b _ e => by cases e)
          refine wpList_append_own_at wY rfl (.tmp 35) (.tmp 50) 25 rfl (w.heap.size + 3) 34 ip (.agg (pcK ⟨#[]⟩ .no)) 6 96 Tryz.underlying25 HIP.out IP.out.1 IP.out.2.1 IP.out.2.2 rfl (by decide) sM i _ rfl hL0 ⟨b, 0, none⟩ 1 1 (pcK (t.key i) y).toList rfl rfl (fun j u hu => by rw [add_at, Nat.zero_add, cell_of_row wY b j _ _ _ hrow, ← Array.getElem?_toList]; exact hu) (all_mem (pcK_one _ _)) (by unfold maxLen; omega) (by have := SM.out.m0; omega) (Nat.le_trans HI.out.size hY.size) ?_
          intro v' w1 hown' hgrow _ hat
          have hb3 : w1.heap[w.heap.size + 2]? = some (.cells (outC t sL sM) 27 (0, 0)) := (hgrow.block _ (by have := HI.out.size; have := hY.size; omega) (fun e => by have := (own_at HI.out.ownM e.symm).1; omega)).trans ((hY.block _ (by have := HI.out.size; omega)).trans HI.out.out)
          have HN := Lib.hid (fun wn hgn hon hbn hsn => HI.out.nextM (W3 := wn) hY hy hown' hgrow hat hgn hbn hon hsn)
          have HO := Lib.hid (own_one hown')
          have HB := Lib.hid hb3
          clear hL0 hown' hgrow hat hrow hy hY hb3
          go_wp2_with (first | go_skip | (refine store_elem rfl 25 (.tmp 52) _ rfl (w.heap.size + 2) 4 v' rfl rfl HO.out 27 _ _ HB.out rfl (by kernel_rfl) ?_; intro wn hgn hon hbn hsn; have hN := Lib.hid (HN.out wn hgn hon hbn hsn); clear hgn hon hbn hsn))
          go_roundw
          case rel => exact ⟨i + 1, v', _, by omega, by go_num, hN.out⟩
          case measure => simp [intOf]; omega
        · have hge : decide ((i : Int) < t.mn) = false := by simp; omega
          obtain rfl : i = t.mn := by omega
          have OL := own_one hI.ownL
          have OM := own_one hI.ownM
          have O1 := Lib.hid (outC_one t OL OM)
          clear hI OL OM
          go_wp2_with (first | go_skip | (refine wpList_load_row' rfl 27 (.tmp 3) rfl _ rfl 27 _ (0, 0) _ HI.out.out Tryz.underlying27 rfl (VT.val_info t) ?_) | (refine wpList_store_row rfl 27 (.tmp 2) (.tmp 53) rfl _ (outC t sL sM) rfl rfl 27 _ HI.out.res (VT.val_info t) rfl O1.out ?_; intro wn hbn hgn hon hsn))
          obtain ⟨y, ey, hy⟩ := HI.out.end_ HA hon hsn
          refine bodyPost_ret (v := .agg (outC t sL sM)) (results_cell_row rfl _ _ _ _ _ _ _ rfl hgn Tryz.underlying27 rfl (VT.val_info t)) rfl ⟨y, by rw [ey], hy, HI.out.below.trans (hbn.mono (by omega))⟩
theorem rcopy_any (t : VT) : RCopyOk t := by
  have key : ∀ t : VT, (∀ i, i < t.ln → RCopyOk (t.lt i)) → (∀ i, i < t.mn → RCopyOk (t.mt i)) → RCopyOk t := fun t ihl ihm w ht hs => rcopy_go t w ht hs ihl ihm
  induction t with
  | no => exact key .no (fun i hi => absurd hi (Nat.not_lt_zero i)) (fun i hi => absurd hi (Nat.not_lt_zero i))
  | mk k n s lA lb lo ln lc lt mA mb mo mn mc ky mt ihl ihm => exact key (.mk k n s lA lb lo ln lc lt mA mb mo mn mc ky mt) (fun i _ => ihl i) (fun i _ => ihm i)
end Go.Proofs.YtcpmehppfccihaaGreatDoor
