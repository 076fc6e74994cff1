/-
  value.Copy tells a tree alike, all of it in blocks of its own. No condition.
-/
import Derived.Test.YteplcnpmdjdlkaaGreatDoorCopyIJ
import Derived.Test.YteplcnpmdjdlkaaGreatDoorJ7
namespace Go.Proofs.YteplcnpmdjdlkaaGreatDoor
open Go.RowKit
set_option linter.unusedVariables false
set_option linter.unusedSimpArgs false
set_option linter.unusedSectionVars false
theorem boxC_one (t : VT) (A1 A2 : Option Addr) (c1 c2 : Nat) : (boxC t A1 A2 c1 c2).all (·.oneCell') = true := by simp [boxC, Value.oneCell']
def CopyOk (t : VT) : Prop := ∀ (w : World), VT.In w.heap.size w t → VT.Sm t → Calls Tryz.prog 39 #[.agg t.c] w fun e w' => ∃ y : VT, e = .returned (.agg y.c) ∧ Cop w.heap.size t y w' ∧ Below w.heap.size w w'
set_option maxRecDepth 100000 in
set_option maxHeartbeats 4000000 in
theorem vcopy_go (t : VT) (w : World) (ht : VT.In w.heap.size w t) (hs : VT.Sm t) (ihl : ∀ i, i < t.ln → CopyOk (t.lt i)) (ihm : ∀ i, i < t.mn → CopyOk (t.mt i)) : Calls Tryz.prog 39 #[.agg t.c] w fun e w' => ∃ y : VT, e = .returned (.agg y.c) ∧ Cop w.heap.size t y w' ∧ Below w.heap.size w w' := by
  have IL := Lib.hid ihl
  have IM := Lib.hid ihm
  have SM := Lib.hid hs
  clear ihl ihm hs
  have HA := ht.here
  have hll := HA.ll
  have hml := HA.ml
  have HT := Lib.hid ht
  clear ht
  have hS : Boxes w (w.alloc (Obj.cells t.c 34)) [(w.heap.size, Obj.cells t.c 34)] := (Boxes.start w).alloc (Obj.cells t.c 34)
  have hW0 : (w.alloc (Obj.cells t.c 34)).heap.size = w.heap.size + 1 := Array.size_push ..
  go_enter Tryz.func39, Tryz.ntmps39
  go_wp2_with (first | go_skip | ((with_reducible refine gate_op (op := .alloc 34) rfl ?_); generalize (w.alloc (Obj.cells t.c 34)) = W0 at *; refine alloc_arm rfl 34 rfl (val_alloc _) ?_; intro wn hbn hgn; have hS1 := hS.new hbn hgn; clear hS hbn hgn; have hS := hS1; clear hS1))
  rename World => w1
  rw [hW0] at hS ⊢
  have hS : Boxes w w1 [(w.heap.size, Obj.cells t.c 34), (w.heap.size + 1, Obj.cells VT.no.c 34)] := hS
  refine regCopy1 (by kernel_rfl) (b0 := w.heap.size) (s3 := .slice t.lA t.ln t.lc) (s4 := .slice t.mA t.mn t.mc) (box := t.c) (RV := Cl 34 5 w1.heap.size t.ln (fun i => (t.lt i).c)) (RP := Cl 79 6 w1.heap.size t.mn (fun i => t.pc i)) (of_decide_eq_true (by kernel_rfl)) rfl (hS.at_ 0 rfl) rfl rfl ?_ ?_ (fun v W W' h hb => h.step hb) (fun v W W' h hb => h.step hb) ?_
  · intro W hb
    exact (cloneV_any ((HT.out.move (hS.step hb).below).up (hS.step hb).below.size) SM.out.l0).mono fun e w' ⟨v, he, hv, hb'⟩ => ⟨v, he, hv.low hb.size, hb'⟩
  · intro W hb
    exact (cloneP_any ((HT.out.move (hS.step hb).below).up (hS.step hb).below.size) SM.out.m0).mono fun e w' ⟨v, he, hv, hb'⟩ => ⟨v, he, hv.low hb.size, hb'⟩
  intro θ wX hV hP e6 hX
  simp only [seqTo, dstOf, Act.put, List.getElem?_toArray, List.getElem?_cons_zero, List.getElem?_cons_succ, Option.bind_some, List.setIfInBounds_toArray, List.set_cons_zero, List.set_cons_succ, List.drop_succ_cons, List.drop_zero]
  have hS1 := hS.step hX
  have hw1 := hS.lt 1 rfl
  clear hS
  obtain ⟨A1, g1, c1, cu1, e2, f1⟩ := hV
  obtain ⟨A2, g2, c2, cu2, e5, f2⟩ := hP
  rw [e2, e5, e6]
  have F1 := Lib.hid f1
  have F2 := Lib.hid f2
  clear e2 e5 e6 f1 f2 hW0
  have hO : Hid (∀ k, k ≠ w.heap.size → wX.heap[k]? = wX.heap[k]?) := fun k hk => rfl
  have hZ : Hid (wX.heap.size = wX.heap.size) := rfl
  refine store_elem rfl 31 (.tmp 11) _ rfl _ 3 (.slice A1 t.ln c1) rfl rfl rfl 34 _ _ (hS1.at_ 0 rfl) rfl (by kernel_rfl) ?_; intro wn hgn hon hbn hsn; have hS2 := hS1.put 0 rfl hon hbn hgn; have hO1 := Lib.hid (fun k hk => (hon k hk).trans (hO.out k hk)); have hZ1 := Lib.hid (hsn.trans hZ.out); clear hS1 hgn hon hbn hsn hO hZ; have hS1 := hS2; have hO := hO1; have hZ := hZ1; clear hS2 hO1 hZ1
  go_wp2_with (first | go_skip | ((with_reducible refine gate_op (op := .store 32 (.tmp 12) (.tmp 10)) rfl ?_); refine store_elem rfl 32 (.tmp 12) _ rfl _ 4 (.slice A2 t.mn c2) rfl rfl rfl 34 _ _ (hS1.at_ 0 rfl) rfl (by kernel_rfl) ?_; intro wn hgn hon hbn hsn; have hS2 := hS1.put 0 rfl hon hbn hgn; have hO1 := Lib.hid (fun k hk => (hon k hk).trans (hO.out k hk)); have hZ1 := Lib.hid (hsn.trans hZ.out); clear hS1 hgn hon hbn hsn hO hZ; have hS1 := hS2; have hO := hO1; have hZ := hZ1; clear hS2 hO1 hZ1; have c3 := (cell_of_row _ _ 3 _ _ _ (hS1.at_ 0 rfl)).trans (show _ = some (.slice A1 t.ln c1) from rfl)))
  have hF : CopF w t wX.heap.size A1 A2 g1 g2 c1 c2 := by
    refine ⟨fun hn => ?_, fun hn => ?_, fun hn hm hg => ?_, Nat.le_trans (by omega) hX.size⟩
    · obtain ⟨k1, k2, k3, _, k5, _⟩ := F1.out hn
      exact ⟨k1, by omega, (Array.getElem?_eq_some_iff.1 k3).1, k5⟩
    · obtain ⟨k1, k2, k3, _, k5, _⟩ := F2.out hn
      exact ⟨k1, by omega, (Array.getElem?_eq_some_iff.1 k3).1, k5⟩
    · have k1 := (F1.out hn).2.2.1
      have k2 := (F2.out hm).2.2.1
      rw [hg, k2] at k1
      injection k1 with k1
      injection k1 with _ k1
      exact absurd k1 (by decide)
  rename World => w3
  have hI : CopI w t wX.heap.size A1 A2 g1 g2 c1 c2 (fun _ => .no) (fun _ => .no) 0 0 w3 := by
    refine ⟨hS1.below, hS1.at_ 0 rfl, hS1.at_ 1 rfl, Nat.le_of_eq hZ.out.symm, fun hn => ?_, fun hn => ?_, fun k hk => absurd hk (Nat.not_lt_zero k), fun k hk => absurd hk (Nat.not_lt_zero k), fun k l _ hl => absurd hl (Nat.not_lt_zero l), fun k l _ hl => absurd hl (Nat.not_lt_zero l), fun k l hk _ => absurd hk (Nat.not_lt_zero k)⟩
    · obtain ⟨k1, k2, k3, k4, k5, k6⟩ := F1.out hn
      exact ⟨cu1, (hO.out g1 (by omega)).trans k3, k4, fun k hk q u hu => k6 k hk q u hu⟩
    · obtain ⟨k1, k2, k3, k4, k5, k6⟩ := F2.out hn
      exact ⟨cu2, (hO.out g2 (by omega)).trans k3, k4, fun k hk q u hu => k6 k hk q u hu⟩
  generalize wX.heap.size = B at *
  have HF := Lib.hid hF
  clear F1 F2 hS1 hO hZ hX hF c3
  go_loopw [3, 16] (fun x iv wr => ∃ (i : Nat) (F : Nat → VT), i ≤ t.ln ∧ iv = .int .i64 (i : Int) ∧ CopI w t B A1 A2 g1 g2 c1 c2 F (fun _ => .no) i 0 wr) (fun _ iv _ => t.ln - (intOf iv).toNat)
  case atStart => exact ⟨0, _, Nat.zero_le _, rfl, hI⟩
  case round =>
    clear hI
    rename_i wr
    obtain ⟨i, F, hi, rfl, hI⟩ := hrel
    have HI := Lib.hid hI
    by_cases hlt : i < t.ln
    · have hltb : decide ((i : Int) < t.ln) = true := by simp; omega
      obtain ⟨cur, hrow, hcs, hcu⟩ := hI.rowL (by omega)
      have hbox := hI.box
      have hbl := hI.below
      have HC := Lib.hid (And.intro hcs hcu)
      clear hI hcs hcu
      go_wp2_with go_skip
      refine regCopy5 (by kernel_rfl) (b0 := w.heap.size) (g := g1) (n := t.ln) (c := c1) (i := i) (x := t.lt i) (box := boxC t A1 A2 c1 c2) (cur := cur) (of_decide_eq_true (by kernel_rfl)) rfl rfl hlt hbox (by rw [(HF.out.l (by omega)).1]; rfl) hrow (fun q u hu => HC.out.2 i hlt q u (by rw [if_neg (Nat.lt_irrefl i)]; exact hu)) (fun W hb => IL.out i hlt W (((HT.out.l i hlt).move (hbl.trans (hb.mono hbl.size))).up (hbl.trans (hb.mono hbl.size)).size) (SM.out.l i hlt)) ?_
      intro θ wY y e8 e9 hy hY
      simp only [seqTo, dstOf, Act.put, List.getElem?_toArray, List.getElem?_cons_zero, List.getElem?_cons_succ, Option.bind_some, List.setIfInBounds_toArray, List.set_cons_zero, List.set_cons_succ, List.drop_succ_cons, List.drop_zero]
      rw [e8, e9]
      clear e8 e9
      refine store_sub rfl 34 (.tmp 28) (.tmp 27) rfl g1 (i * 5) y.c rfl rfl (all_mem (VT.c_one _)) 34 cur ((hY.block g1 (Array.getElem?_eq_some_iff.1 hrow).1).trans hrow) (by have := (HF.out.l (by omega)).2.2.2; rw [HC.out.1]; show i * 5 + 5 ≤ _; omega) (VT.val_info _) ?_
      intro wn hgn hon hbn hsn
      have hN := CopI.nextL HF.out HI.out hlt hrow hY hy hgn hon hbn hsn
      clear hgn hon hbn hsn hrow hbox hbl
      go_wp2_with go_skip
      go_roundw
      case rel => exact ⟨i + 1, _, by omega, by go_num, hN⟩
      case measure => simp [intOf]; omega
    · have hge : decide ((i : Int) < t.ln) = false := by simp; omega
      obtain rfl : i = t.ln := by omega
      have c4 : wr.cell? ⟨w.heap.size, 4, none⟩ = some (.slice A2 t.mn c2) := cell_of_row _ _ 4 _ _ _ hI.box
      clear hI
      go_wp2_with go_skip
      go_loopw [4, 33] (fun x iv wr => ∃ (i : Nat) (G : Nat → VT), i ≤ t.mn ∧ iv = .int .i64 (i : Int) ∧ CopI w t B A1 A2 g1 g2 c1 c2 F G t.ln i wr) (fun _ iv _ => t.mn - (intOf iv).toNat)
      case atStart => exact ⟨0, _, Nat.zero_le _, rfl, HI.out⟩
      case round =>
        clear HI c4
        rename_i wr
        obtain ⟨i, G, hi, rfl, hI⟩ := hrel
        have HI := Lib.hid hI
        by_cases hlt : i < t.mn
        · have hltb : decide ((i : Int) < t.mn) = true := by simp; omega
          obtain ⟨cur, hrow, hcs, hcu⟩ := hI.rowM (by omega)
          have hbox := hI.box
          have hbl := hI.below
          have HC := Lib.hid (And.intro hcs hcu)
          clear hI hcs hcu
          go_wp2_with go_skip
          refine regCopy10 (by kernel_rfl) (b0 := w.heap.size) (g := g2) (n := t.mn) (c := c2) (i := i) (x := t.mt i) (box := boxC t A1 A2 c1 c2) (cur := cur) (of_decide_eq_true (by kernel_rfl)) rfl rfl hlt hbox (by rw [(HF.out.m (by omega)).1]; rfl) hrow (fun q u hu => by rw [show i * 6 + 1 + q = i * 6 + (q + 1) by omega]; refine HC.out.2 i hlt (q + 1) u ?_; rw [if_neg (Nat.lt_irrefl i), ← hu]; simp [pcK, VT.c]) (fun W hb => IM.out i hlt W (((HT.out.m i hlt).move (hbl.trans (hb.mono hbl.size))).up (hbl.trans (hb.mono hbl.size)).size) (SM.out.m i hlt)) ?_
          intro θ wY y e8 e9 hy hY
          simp only [seqTo, dstOf, Act.put, List.getElem?_toArray, List.getElem?_cons_zero, List.getElem?_cons_succ, Option.bind_some, List.setIfInBounds_toArray, List.set_cons_zero, List.set_cons_succ, List.drop_succ_cons, List.drop_zero]
          rw [e8, e9]
          clear e8 e9
          refine store_sub rfl 34 (.tmp 47) (.tmp 45) rfl g2 (i * 6 + 1) y.c rfl rfl (all_mem (VT.c_one _)) 79 cur ((hY.block g2 (Array.getElem?_eq_some_iff.1 hrow).1).trans hrow) (by have := (HF.out.m (by omega)).2.2.2; rw [HC.out.1]; show i * 6 + 1 + 5 ≤ _; omega) (VT.val_info _) ?_
          intro wn hgn hon hbn hsn
          have hN := CopI.nextM HF.out HI.out hlt hrow hY hy hgn hon hbn hsn
          clear hgn hon hbn hsn hrow hbox hbl
          go_wp2_with go_skip
          go_roundw
          case rel => exact ⟨i + 1, _, by omega, by go_num, hN⟩
          case measure => simp [intOf]; omega
        · have hge : decide ((i : Int) < t.mn) = false := by simp; omega
          obtain rfl : i = t.mn := by omega
          have hbox := hI.box
          have hres := hI.res
          clear hI
          go_wp2_with (first | go_skip | (refine wpList_load_row' rfl 34 (.tmp 1) rfl _ rfl 34 _ (0, 0) _ hbox Tryz.underlying34 rfl (VT.val_info t) ?_) | (refine wpList_store_row rfl 34 (.tmp 2) (.tmp 49) rfl _ (boxC t A1 A2 c1 c2) rfl rfl 34 _ hres (VT.val_info t) rfl (boxC_one t A1 A2 c1 c2) ?_; intro wn hbn hgn hon hsn))
          exact bodyPost_ret (v := .agg (boxC t A1 A2 c1 c2)) (results_cell_row rfl _ _ _ _ _ _ _ rfl hgn Tryz.underlying34 rfl (VT.val_info t)) rfl ⟨outT t A1 A2 g1 g2 c1 c2 F G, rfl, CopI.end_ HF.out HA HI.out hon hsn, HI.out.below.trans (hbn.mono (by omega))⟩
theorem vCopy_any (t : VT) : CopyOk t := by
  have key : ∀ t : VT, (∀ i, i < t.ln → CopyOk (t.lt i)) → (∀ i, i < t.mn → CopyOk (t.mt i)) → CopyOk t := fun t ihl ihm w ht hs => vcopy_go t w ht hs ihl ihm
  induction t with
  | no => exact key .no (fun i hi => absurd hi (Nat.not_lt_zero i)) (fun i hi => absurd hi (Nat.not_lt_zero i))
  | mk k n s lA lb lo ln lc lt mA mb mo mn mc ky mt ihl ihm => exact key (.mk k n s lA lb lo ln lc lt mA mb mo mn mc ky mt) (fun i _ => ihl i) (fun i _ => ihm i)
end Go.Proofs.YteplcnpmdjdlkaaGreatDoor
