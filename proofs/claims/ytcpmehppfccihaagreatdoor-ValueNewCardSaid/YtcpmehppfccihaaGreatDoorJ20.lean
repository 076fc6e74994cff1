/-
  Law 4's spoil: all of a tree's own rows are written over, nothing else is. Condition: the tree's rows are whole blocks, each of its own.
  Law 4's spoil, walked. Condition: the tree's rows are whole blocks, each of its own.
-/
import Derived.Test.YtcpmehppfccihaaGreatDoorJ12
import Derived.Test.YtcpmehppfccihaaGreatDoorJ17
namespace Go.Proofs.YtcpmehppfccihaaGreatDoor
open Go.RowKit
set_option linter.unusedVariables false
set_option linter.unusedSimpArgs false
set_option linter.unusedSectionVars false
/-- Is it a block of the tree? -/
def InB (b : Nat) (t : VT) : Prop := ∀ P : Nat → Prop, VT.At P t → P b
theorem at_inB {t : VT} {P : Nat → Prop} (h : VT.At P t) : VT.At (fun b => InB b t) t := by
  induction h with
  | @mk t bl bm hl hm ihl ihm =>
    exact .mk (fun hn P hP => hP.bl hn) (fun hn P hP => hP.bm hn) (fun i hi => (ihl i hi).imp fun b hb P hP => hb P (hP.l i hi)) (fun i hi => (ihm i hi).imp fun b hb P hP => hb P (hP.m i hi))
theorem not_apart {x y : VT} (h : VT.Apart x y) {b : Nat} (hy : InB b y) : ¬ InB b x := by
  obtain ⟨P, h1, h2⟩ := h
  exact fun hx => hy _ h2 (hx _ h1)
/-- What the one call did: nothing but to the tree's blocks. -/
structure Spoilt (t : VT) (w w' : World) : Prop where
  os : w'.os = w.os
  tape : w'.tape = w.tape
  output : w'.output = w.output
  size : w.heap.size ≤ w'.heap.size
  rest : ∀ b, b < w.heap.size → ¬ InB b t → w'.heap[b]? = w.heap[b]?
theorem Spoilt.below {t : VT} {w w' : World} {B : Nat} (h : Spoilt t w w') (ha : VT.At (fun b => B ≤ b) t) (hB : B ≤ w.heap.size) : Below B w w' :=
  ⟨h.os, h.tape, h.output, h.size, fun k hk => h.rest k (by omega) (fun hi => by have : B ≤ k := hi _ ha; omega)⟩
def SpoilOk (t : VT) : Prop := ∀ w, VT.In w.heap.size w t → VT.Free w t → Calls Tryz.prog 31 #[.agg t.c] w fun e w' => e = .returned (.tuple #[]) ∧ Spoilt t w w'
/-- What stands between the rounds: so many elements, so many pairs are spoilt. -/
structure SpI (t : VT) (w : World) (i j : Nat) (W : World) : Prop where
  os : W.os = w.os
  tape : W.tape = w.tape
  output : W.output = w.output
  size : w.heap.size + 1 ≤ W.heap.size
  box : W.heap[w.heap.size]? = some (.cells t.c 27 (0, 0))
  rest : ∀ b, b < w.heap.size → (0 < t.ln → b ≠ t.lb) → (0 < j → b ≠ t.mb) → (∀ k, k < i → ¬ InB b (t.lt k)) → (∀ k, k < j → ¬ InB b (t.mt k)) → W.heap[b]? = w.heap[b]?
  rowL : 0 < t.ln → ∃ cur, W.heap[t.lb]? = some (.cells cur 27 (0, 0)) ∧ ∀ k, i ≤ k → k < t.ln → ∀ (q : Nat) u, (t.lt k).c[q]? = some u → cur[t.lo + k * 5 + q]? = some u
  rowM : 0 < t.mn → ∃ cur, W.heap[t.mb]? = some (.cells cur 34 (0, 0)) ∧ ∀ k, j ≤ k → k < t.mn → ∀ (q : Nat) u, (t.pc k)[q]? = some u → cur[t.mo + k * 6 + q]? = some u
section
variable {t : VT} {w W W1 W2 : World} {i j : Nat}
theorem SpI.start (ht : VT.In w.heap.size w t) (hf : VT.Free w t) : SpI t w 0 0 (w.alloc (Obj.cells t.c 27)) := by
  have hb := Below.alloc (Below.refl w.heap.size w) (Nat.le_refl _) (Obj.cells t.c 27)
  have row : ∀ {b : Nat} {cur : Array Value} {T : TypeId} {p : Nat} {u : Value}, w.heap[b]? = some (.cells cur T (0, 0)) → w.cell? ⟨b, p, none⟩ = some u → cur[p]? = some u := fun h k => by rwa [cell_of_row w _ _ _ _ _ h] at k
  refine ⟨rfl, rfl, rfl, Nat.le_of_eq (Array.size_push ..).symm, heap_alloc_new _ _, fun b hb' _ _ _ _ => hb.block b hb', fun hn => ?_, fun hn => ?_⟩
  · obtain ⟨cur, hr⟩ := hf.h.rl hn
    exact ⟨cur, (hb.block _ (ht.here.la hn).2).trans hr, fun k _ hk q u hu => row hr (ht.here.lcell k hk q u hu)⟩
  · obtain ⟨cur, hr⟩ := hf.h.rm hn
    exact ⟨cur, (hb.block _ (ht.here.ma hn).2).trans hr, fun k _ hk q u hu => row hr (ht.here.mcell k hk q u hu)⟩
/-- An element, a pair, not yet spoilt, is as it was. -/
theorem SpI.keepL (ht : VT.In w.heap.size w t) (hf : VT.Free w t) (h : SpI t w i j W) {k : Nat} (hk : i ≤ k) (hk2 : k < t.ln) (hj : j = 0) : VT.In W.heap.size W (t.lt k) ∧ VT.Free W (t.lt k) := by
  have hin := ht.l k hk2
  have hat := at_inB hin.at_
  have key : ∀ b, InB b (t.lt k) → W.heap[b]? = w.heap[b]? := fun b hb => by
    refine h.rest b (hb _ hin.at_) (fun hn => (hb _ (hf.h.ol k hk2)).1 hn) (fun h0 => by omega) (fun l hl => not_apart (hf.h.ll l k (by omega) hk2) hb) (fun l hl => by omega)
  exact ⟨(hin.keep hat key).up (by have := h.size; omega), (hf.h.hl k hk2).keep hat key⟩
theorem SpI.keepM (ht : VT.In w.heap.size w t) (hf : VT.Free w t) (h : SpI t w i j W) (hi : i ≤ t.ln) {k : Nat} (hk : j ≤ k) (hk2 : k < t.mn) : VT.In W.heap.size W (t.mt k) ∧ VT.Free W (t.mt k) := by
  have hin := ht.m k hk2
  have hat := at_inB hin.at_
  have key : ∀ b, InB b (t.mt k) → W.heap[b]? = w.heap[b]? := fun b hb => by
    refine h.rest b (hb _ hin.at_) (fun hn => (hb _ (hf.h.om k hk2)).1 hn) (fun h0 => (hb _ (hf.h.om k hk2)).2 (by omega)) (fun l hl => not_apart (hf.h.lm l k (by omega) hk2) hb) (fun l hl => not_apart (hf.h.mm l k (by omega) hk2) hb)
  exact ⟨(hin.keep hat key).up (by have := h.size; omega), (hf.h.hm k hk2).keep hat key⟩
theorem old_lt {x : VT} (hx : VT.In w.heap.size w x) {b : Nat} (hb : InB b x) : b < w.heap.size := hb _ hx.at_
/-- One element spoilt, then written over. -/
theorem SpI.nextL (ht : VT.In w.heap.size w t) (hf : VT.Free w t) (h : SpI t w i 0 W) (hi : i < t.ln) (h1 : Spoilt (t.lt i) W W1) {z cur : Array Value} (hz : z.size = 5) (hr : W1.heap[t.lb]? = some (.cells cur 27 (0, 0))) (hcs : t.lo + i * 5 + 5 ≤ cur.size)
    (hcu : ∀ k, i < k → k < t.ln → ∀ (q : Nat) u, (t.lt k).c[q]? = some u → cur[t.lo + k * 5 + q]? = some u)
    (hn : W2.heap[t.lb]? = some (.cells (cur.toList.take (t.lo + i * 5) ++ z.toList ++ cur.toList.drop (t.lo + i * 5 + z.size)).toArray 27 (0, 0))) (ho : ∀ k, k ≠ t.lb → W2.heap[k]? = W1.heap[k]?) (hb : Below t.lb W1 W2) (hs : W2.heap.size = W1.heap.size) : SpI t w (i + 1) 0 W2 := by
  have h0 : 0 < t.ln := by omega
  have hlb := (ht.here.la h0).2
  have hsz := h.size
  have hne : ∀ b, b < W.heap.size → ¬ InB b (t.lt i) → b ≠ t.lb → W2.heap[b]? = W.heap[b]? := fun b hb1 hb2 hb3 => (ho b hb3).trans (h1.rest b hb1 hb2)
  refine ⟨hb.os.trans (h1.os.trans h.os), hb.tape.trans (h1.tape.trans h.tape), hb.output.trans (h1.output.trans h.output), by have := h1.size; omega, ?_, fun b hb1 hb2 hb3 hb4 hb5 => ?_, fun _ => ⟨_, hn, ?_⟩, fun hm => ?_⟩
  · exact (hne _ (by omega) (fun hb => by have := old_lt (ht.l i hi) hb; omega) (by omega)).trans h.box
  · exact (hne b (by omega) (hb4 i (by omega)) (hb2 h0)).trans (h.rest b hb1 hb2 hb3 (fun k hk => hb4 k (by omega)) hb5)
  · intro k hk hk2 q u hu
    have hq : q < 5 := (Array.getElem?_eq_some_iff.1 hu).1
    have hl : z.toList.length = 5 := hz
    have := splice_get cur.toList z.toList (t.lo + i * 5) (t.lo + k * 5 + q) (by rw [hl, Array.length_toList]; omega)
    rw [← Array.getElem?_toList]
    rw [hl] at this
    rw [hz]
    refine this.trans ?_
    rw [if_neg (by omega), if_neg (by omega), Array.getElem?_toList]
    exact hcu k (by omega) hk2 q u hu
  · obtain ⟨cm, hrm, hcm⟩ := h.rowM hm
    exact ⟨cm, (hne _ (by have := (ht.here.ma hm).2; omega) (fun hb => (hb _ (hf.h.ol i hi)).2 hm rfl) (Ne.symm (hf.h.no h0 hm))).trans hrm, hcm⟩
theorem SpI.nextM (ht : VT.In w.heap.size w t) (hf : VT.Free w t) (h : SpI t w t.ln j W) (hj : j < t.mn) (h1 : Spoilt (t.mt j) W W1) {z cur : Array Value} (hz : z.size = 6) (hr : W1.heap[t.mb]? = some (.cells cur 34 (0, 0))) (hcs : t.mo + j * 6 + 6 ≤ cur.size)
    (hcu : ∀ k, j < k → k < t.mn → ∀ (q : Nat) u, (t.pc k)[q]? = some u → cur[t.mo + k * 6 + q]? = some u)
    (hn : W2.heap[t.mb]? = some (.cells (cur.toList.take (t.mo + j * 6) ++ z.toList ++ cur.toList.drop (t.mo + j * 6 + z.size)).toArray 34 (0, 0))) (ho : ∀ k, k ≠ t.mb → W2.heap[k]? = W1.heap[k]?) (hb : Below t.mb W1 W2) (hs : W2.heap.size = W1.heap.size) : SpI t w t.ln (j + 1) W2 := by
  have h0 : 0 < t.mn := by omega
  have hlb := (ht.here.ma h0).2
  have hsz := h.size
  have hne : ∀ b, b < W.heap.size → ¬ InB b (t.mt j) → b ≠ t.mb → W2.heap[b]? = W.heap[b]? := fun b hb1 hb2 hb3 => (ho b hb3).trans (h1.rest b hb1 hb2)
  refine ⟨hb.os.trans (h1.os.trans h.os), hb.tape.trans (h1.tape.trans h.tape), hb.output.trans (h1.output.trans h.output), by have := h1.size; omega, ?_, fun b hb1 hb2 hb3 hb4 hb5 => ?_, fun hl => ?_, fun _ => ⟨_, hn, ?_⟩⟩
  · exact (hne _ (by omega) (fun hb => by have := old_lt (ht.m j hj) hb; omega) (by omega)).trans h.box
  · exact (hne b (by omega) (hb5 j (by omega)) (hb3 (by omega))).trans (h.rest b hb1 hb2 (fun hj0 => hb3 (by omega)) hb4 (fun k hk => hb5 k (by omega)))
  · obtain ⟨cm, hrm, hcm⟩ := h.rowL hl
    exact ⟨cm, (hne _ (by have := (ht.here.la hl).2; omega) (fun hb => (hb _ (hf.h.om j hj)).1 hl rfl) (hf.h.no hl h0)).trans hrm, hcm⟩
  · intro k hk hk2 q u hu
    have hq : q < 6 := (Array.getElem?_eq_some_iff.1 hu).1
    have hl : z.toList.length = 6 := hz
    have := splice_get cur.toList z.toList (t.mo + j * 6) (t.mo + k * 6 + q) (by rw [hl, Array.length_toList]; omega)
    rw [← Array.getElem?_toList]
    rw [hl] at this
    rw [hz]
    refine this.trans ?_
    rw [if_neg (by omega), if_neg (by omega), Array.getElem?_toList]
    exact hcu k (by omega) hk2 q u hu
theorem SpI.done (h : SpI t w t.ln t.mn W) : Spoilt t w W :=
  ⟨h.os, h.tape, h.output, by have := h.size; omega, fun b hb hn => h.rest b hb (fun h0 he => hn fun P hP => he ▸ hP.bl h0) (fun h0 he => hn fun P hP => he ▸ hP.bm h0) (fun k hk hi => hn fun P hP => hi P (hP.l k hk)) (fun k hk hi => hn fun P hP => hi P (hP.m k hk))⟩
end
end Go.Proofs.YtcpmehppfccihaaGreatDoor
namespace Go.Proofs.YtcpmehppfccihaaGreatDoor
open Go.RowKit
set_option linter.unusedVariables false
set_option linter.unusedSimpArgs false
set_option linter.unusedSectionVars false
def spS : ByteArray := ⟨#[115, 112, 111, 105, 108, 116]⟩
set_option maxRecDepth 100000 in
set_option maxHeartbeats 2000000 in
theorem spoil_go (t : VT) (w : World) (ht : VT.In w.heap.size w t) (hf : VT.Free w t) (ihl : ∀ i, i < t.ln → SpoilOk (t.lt i)) (ihm : ∀ i, i < t.mn → SpoilOk (t.mt i)) : Calls Tryz.prog 31 #[.agg t.c] w fun e w' => e = .returned (.tuple #[]) ∧ Spoilt t w w' := by
  have IL := Lib.hid ihl
  have IM := Lib.hid ihm
  clear ihl ihm
  have HA := ht.here
  have hll := HA.ll
  have hml := HA.ml
  have hI := SpI.start ht hf
  have HT := Lib.hid ht
  have HF := Lib.hid hf
  have p1 := Lib.hid build_ks
  have p2 := Lib.hid build_p0
  clear ht hf
  go_enter Tryz.func31, Tryz.ntmps31
  go_wp2_with go_skip
  go_loopw [2] (fun iv wr => ∃ i : Nat, i ≤ t.ln ∧ iv = .int .i64 (i : Int) ∧ SpI t w i 0 wr) (fun iv _ => t.ln - (intOf iv).toNat)
  case atStart => exact ⟨0, Nat.zero_le _, rfl, hI⟩
  case round =>
    clear hI
    rename_i wr
    obtain ⟨i, hi, rfl, hI⟩ := hrel
    have HI := Lib.hid hI
    have c3 : wr.cell? ⟨w.heap.size, 3, none⟩ = some (.slice t.lA t.ln t.lc) := cell_of_row _ _ 3 _ _ _ hI.box
    by_cases hlt : i < t.ln
    · have hltb : decide ((i : Int) < t.ln) = true := by simp; omega
      have xa := HA.lix hlt
      obtain ⟨cur, hr, hcu⟩ := hI.rowL (by omega)
      have HR := Lib.hid hr
      have HU := Lib.hid hcu
      have HK := Lib.hid (IL.out i hlt wr (hI.keepL HT.out HF.out (Nat.le_refl _) hlt rfl).1 (hI.keepL HT.out HF.out (Nat.le_refl _) hlt rfl).2)
      clear hI hr hcu
      go_wp2_with (first | go_skip | ((with_reducible refine gate_op (op := .load 27 (.tmp 14)) rfl ?_); refine load_cells rfl 27 (.tmp 14) rfl t.lb (t.lo + i * 5) rfl (t.lt i).c _ (fun q u hu => (cell_of_row _ _ _ _ _ _ HR.out).trans (HU.out i (Nat.le_refl _) hlt q u hu)) Tryz.underlying27 rfl (VT.val_info _) ?_))
      refine HK.out.mono ?_
      rintro e w1 ⟨rfl, hsp⟩
      have hsz := HI.out.size
      have box1 : w1.heap[w.heap.size]? = some (.cells t.c 27 (0, 0)) := (hsp.rest _ (by omega) (fun hb => by have := old_lt (HT.out.l i hlt) hb; omega)).trans HI.out.box
      have row1 : w1.heap[t.lb]? = some (.cells cur 27 (0, 0)) := (hsp.rest _ (Array.getElem?_eq_some_iff.1 HR.out).1 (fun hb => (hb _ (HF.out.h.ol i hlt)).1 (by omega) rfl)).trans HR.out
      have c3' : w1.cell? ⟨w.heap.size, 3, none⟩ = some (.slice t.lA t.ln t.lc) := cell_of_row _ _ 3 _ _ _ box1
      have hbd := Lib.hid (Array.getElem?_eq_some_iff.1 (HU.out i (Nat.le_refl _) hlt 4 _ rfl)).1
      have HSP := Lib.hid hsp
      have R1 := Lib.hid row1
      clear hsp row1 box1 c3 hsz
      go_wp2_with (first | go_skip | ((with_reducible refine gate_op (op := .build 27 #[(0, .const (.int .i64 9)), (2, .const (.string ⟨#[115, 112, 111, 105, 108, 116]⟩))]) rfl ?_); refine build_arm rfl 27 #[(0, .const (.int .i64 9)), (2, .const (.string ⟨#[115, 112, 111, 105, 108, 116]⟩))] rfl #[(0, .int .i64 9), (2, .string ⟨#[115, 112, 111, 105, 108, 116]⟩)] (by simp only [List.map_toArray, List.map_cons, List.map_nil]; rfl) _ (p1.out 9 spS _) ?_) | ((with_reducible refine gate_op (op := .store 27 (.tmp 21) (.tmp 20)) rfl ?_); refine store_sub rfl 27 (.tmp 21) (.tmp 20) rfl t.lb (t.lo + i * 5) (VT.leaf 9 0 spS).c rfl rfl (all_mem (VT.c_one _)) 27 cur R1.out (by have := hbd.out; show t.lo + i * 5 + 5 ≤ _; omega) (VT.val_info _) ?_; intro wn hgn hon hbn hsn; have hN := Lib.hid (HI.out.nextL HT.out HF.out hlt HSP.out (z := (VT.leaf 9 0 spS).c) rfl R1.out (by have := hbd.out; omega) (fun k hk hk2 q u hu => HU.out k (by omega) hk2 q u hu) hgn hon hbn hsn); clear hgn hon hbn hsn c3'))
      go_roundw
      case rel => exact ⟨i + 1, by omega, by go_num, hN.out⟩
      case measure => simp [intOf]; omega
    · have hge : decide ((i : Int) < t.ln) = false := by simp; omega
      obtain rfl : i = t.ln := by omega
      clear hI
      go_wp2_with go_skip
      go_loopw [3] (fun iv wr => ∃ i : Nat, i ≤ t.mn ∧ iv = .int .i64 (i : Int) ∧ SpI t w t.ln i wr) (fun iv _ => t.mn - (intOf iv).toNat)
      case atStart => exact ⟨0, Nat.zero_le _, rfl, HI.out⟩
      case round =>
        clear HI c3
        rename_i wr
        obtain ⟨i, hi, rfl, hI⟩ := hrel
        have HI := Lib.hid hI
        have c4 : wr.cell? ⟨w.heap.size, 4, none⟩ = some (.slice t.mA t.mn t.mc) := cell_of_row _ _ 4 _ _ _ hI.box
        by_cases hlt : i < t.mn
        · have hltb : decide ((i : Int) < t.mn) = true := by simp; omega
          have xa := HA.mix hlt
          obtain ⟨cur, hr, hcu⟩ := hI.rowM (by omega)
          have HR := Lib.hid hr
          have HU := Lib.hid hcu
          have HK := Lib.hid (IM.out i hlt wr (hI.keepM HT.out HF.out (Nat.le_refl _) (Nat.le_refl _) hlt).1 (hI.keepM HT.out HF.out (Nat.le_refl _) (Nat.le_refl _) hlt).2)
          clear hI hr hcu
          go_wp2_with (first | go_skip | ((with_reducible refine gate_op (op := .load 27 (.tmp 33)) rfl ?_); refine load_cells rfl 27 (.tmp 33) rfl t.mb (t.mo + i * 6 + 1) rfl (t.mt i).c _ (fun q u hu => (cell_of_row _ _ _ _ _ _ HR.out).trans (by rw [show t.mo + i * 6 + 1 + q = t.mo + i * 6 + (q + 1) by omega]; exact HU.out i (Nat.le_refl _) hlt (q + 1) u (by rw [← hu]; simp [VT.pc, VT.c]))) Tryz.underlying27 rfl (VT.val_info _) ?_))
          refine HK.out.mono ?_
          rintro e w1 ⟨rfl, hsp⟩
          have hsz := HI.out.size
          have box1 : w1.heap[w.heap.size]? = some (.cells t.c 27 (0, 0)) := (hsp.rest _ (by omega) (fun hb => by have := old_lt (HT.out.m i hlt) hb; omega)).trans HI.out.box
          have row1 : w1.heap[t.mb]? = some (.cells cur 34 (0, 0)) := (hsp.rest _ (Array.getElem?_eq_some_iff.1 HR.out).1 (fun hb => (hb _ (HF.out.h.om i hlt)).2 (by omega) rfl)).trans HR.out
          have c4' : w1.cell? ⟨w.heap.size, 4, none⟩ = some (.slice t.mA t.mn t.mc) := cell_of_row _ _ 4 _ _ _ box1
          have hbd := Lib.hid (Array.getElem?_eq_some_iff.1 (HU.out i (Nat.le_refl _) hlt 5 _ rfl)).1
          have HSP := Lib.hid hsp
          have R1 := Lib.hid row1
          clear hsp row1 box1 c4 hsz
          go_wp2_with (first | go_skip | ((with_reducible refine gate_op (op := .build 34 #[(0, .const (.string ⟨#[115, 112, 111, 105, 108, 116]⟩))]) rfl ?_); refine build_arm rfl 34 #[(0, .const (.string ⟨#[115, 112, 111, 105, 108, 116]⟩))] rfl #[(0, .string ⟨#[115, 112, 111, 105, 108, 116]⟩)] (by simp only [List.map_toArray, List.map_cons, List.map_nil]; rfl) _ (p2.out spS _) ?_) | ((with_reducible refine gate_op (op := .store 34 (.tmp 40) (.tmp 39)) rfl ?_); refine store_sub rfl 34 (.tmp 40) (.tmp 39) rfl t.mb (t.mo + i * 6) (pcK spS .no) rfl rfl (all_mem (by simp [pcK, VT.L, VT.M, Value.oneCell'])) 34 cur R1.out (by have := hbd.out; show t.mo + i * 6 + 6 ≤ _; omega) (pairK_info) ?_; intro wn hgn hon hbn hsn; have hN := Lib.hid (HI.out.nextM HT.out HF.out hlt HSP.out (z := pcK spS .no) rfl R1.out (by have := hbd.out; omega) (fun k hk hk2 q u hu => HU.out k (by omega) hk2 q u hu) hgn hon hbn hsn); clear hgn hon hbn hsn c4'))
          go_roundw
          case rel => exact ⟨i + 1, by omega, by go_num, hN.out⟩
          case measure => simp [intOf]; omega
        · have hge : decide ((i : Int) < t.mn) = false := by simp; omega
          obtain rfl : i = t.mn := by omega
          clear hI
          go_wp2_with go_skip
          go_end0
          exact ⟨rfl, HI.out.done⟩
theorem spoil_any (t : VT) : SpoilOk t := by
  have key : ∀ t : VT, (∀ i, i < t.ln → SpoilOk (t.lt i)) → (∀ i, i < t.mn → SpoilOk (t.mt i)) → SpoilOk t := fun t ihl ihm w ht hf => spoil_go t w ht hf ihl ihm
  induction t with
  | no => exact key .no (fun i hi => absurd hi (Nat.not_lt_zero i)) (fun i hi => absurd hi (Nat.not_lt_zero i))
  | mk k n s lA lb lo ln lc lt mA mb mo mn mc ky mt ihl ihm => exact key (.mk k n s lA lb lo ln lc lt mA mb mo mn mc ky mt) (fun i _ => ihl i) (fun i _ => ihm i)
end Go.Proofs.YtcpmehppfccihaaGreatDoor
