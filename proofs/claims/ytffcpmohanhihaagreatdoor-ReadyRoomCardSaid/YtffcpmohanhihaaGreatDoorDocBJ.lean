/-
  Doc.Apply of a document that has the root alone, walked, where it accepts; the whole contract. Condition: the library's variables as it lays them; what is made is a value.
-/
import Derived.Test.YtffcpmohanhihaaGreatDoorDocAJ
import Derived.Test.YtffcpmohanhihaaGreatDoorJ18
namespace Go.Proofs.YtffcpmohanhihaaGreatDoor
open Go.RowKit Go.Sort
set_option linter.unusedVariables false
set_option linter.unusedSimpArgs false
set_option linter.unusedSectionVars false
/-- All that was there but these blocks is as it was. -/
structure ButS (S : List Nat) (w w' : World) : Prop where
  os : w'.os = w.os
  tape : w'.tape = w.tape
  output : w'.output = w.output
  size : w.heap.size ≤ w'.heap.size
  block : ∀ k, k < w.heap.size → k ∉ S → w'.heap[k]? = w.heap[k]?
theorem ButS.of_below {S : List Nat} {w w' : World} (h : Below w.heap.size w w') : ButS S w w' := ⟨h.os, h.tape, h.output, h.size, fun k hk _ => h.block k hk⟩
theorem ButS.step {S : List Nat} {w W W' : World} (h : ButS S w W) (hb : Below W.heap.size W W') : ButS S w W' :=
  ⟨hb.os.trans h.os, hb.tape.trans h.tape, hb.output.trans h.output, Nat.le_trans h.size hb.size, fun k hk hn => (hb.block k (Nat.lt_of_lt_of_le hk h.size)).trans (h.block k hk hn)⟩
theorem ButS.put {S : List Nat} {w W W' : World} {b : Nat} (h : ButS S w W) (ho : ∀ k, k ≠ b → W'.heap[k]? = W.heap[k]?) (hb : Below b W W') (hin : b ∈ S ∨ w.heap.size ≤ b) : ButS S w W' :=
  ⟨hb.os.trans h.os, hb.tape.trans h.tape, hb.output.trans h.output, Nat.le_trans h.size hb.size, fun k hk hn => (ho k (fun e => by
    subst e
    rcases hin with hin | hin
    · exact hn hin
    · omega)).trans (h.block k hk hn)⟩
theorem ButS.turn {S : List Nat} {w W W' : World} {b : Nat} (h : ButS S w W) (hb : But b W W') (hin : b ∈ S ∨ w.heap.size ≤ b) : ButS S w W' :=
  ⟨hb.os.trans h.os, hb.tape.trans h.tape, hb.output.trans h.output, Nat.le_trans h.size hb.size, fun k hk hn => (hb.block k (Nat.lt_of_lt_of_le hk h.size) (fun e => by
    subst e
    rcases hin with hin | hin
    · exact hn hin
    · omega)).trans (h.block k hk hn)⟩
theorem ButS.then {S : List Nat} {w W W' : World} (h : ButS S w W) (k : ButS S W W') : ButS S w W' :=
  ⟨k.os.trans h.os, k.tape.trans h.tape, k.output.trans h.output, Nat.le_trans h.size k.size, fun i hi hn => (k.block i (Nat.lt_of_lt_of_le hi h.size) hn).trans (h.block i hi hn)⟩
theorem ButS.more {S S' : List Nat} {w w' : World} (h : ButS S w w') (hs : ∀ k ∈ S, k ∈ S') : ButS S' w w' := ⟨h.os, h.tape, h.output, h.size, fun k hk hn => h.block k hk (fun q => hn (hs k q))⟩
/-- The greater time. -/
abbrev tmax (a b : Int) : Int := max a b
theorem docC_putV {v v' : List Int} (h : v.length = 64) (h' : v'.length = 64) (t : Int) (po pj : Nat) : ((docC v t po pj).toList.take 0 ++ (vcells v').toList ++ (docC v t po pj).toList.drop (0 + (vcells v').size)).toArray = docC v' t po pj := by
  have e : (vcells v').size = (vcells v).size := by rw [vcells_size, vcells_size, h, h']
  rw [List.take_zero, List.nil_append, Nat.zero_add, e]
  unfold docC
  apply Array.toList_inj.1
  simp
theorem docC_putT {v : List Int} (h : v.length = 64) (t t2 : Int) (po pj : Nat) : (docC v t po pj).setIfInBounds 64 (.int .i64 t2) = docC v t2 po pj := by
  unfold docC
  rw [Array.setIfInBounds_append_right (by rw [vcells_size, h]; decide), vcells_size, h]
  rfl
section
variable {P : Program}
theorem gives_store_sub {o : Oper} {a : Act} {w : World} {R : Value → World → Prop} (ty : TypeId) (x y : Operand) (ho : o.op = .store ty x y)
    (g i : Nat) (l : Array Value) (hx : a.eval x = .pointer (some ⟨g, i, none⟩)) (hy : a.eval y = .agg l) (h1 : ∀ v ∈ l.toList, v.oneCell' = true) (t : TypeId) (cs : Array Value) (hg : w.heap[g]? = some (.cells cs t (0, 0))) (hc : i + l.size ≤ cs.size) (hi : (P.info? ty).map (·.size) = some l.size)
    (h : ∀ w', w'.heap[g]? = some (.cells (cs.toList.take i ++ l.toList ++ cs.toList.drop (i + l.size)).toArray t (0, 0)) → (∀ k, k ≠ g → w'.heap[k]? = w.heap[k]?) → Below g w w' → w'.heap.size = w.heap.size → R undef w') : gives P o a w R := by
  obtain ⟨i0, hq, hs⟩ := Option.map_eq_some_iff.1 hi
  have hst := run_storeCells_at (P := P) g i t l.toList 0 cs w hg (by simpa using hc) h1
  simp only [Nat.add_zero, Array.length_toList] at hst
  have hrun : (storeVar ty ⟨g, i, none⟩ (.agg l)).run P w = .ok () (w.setRow g (cs.toList.take i ++ l.toList ++ cs.toList.drop (i + l.size)).toArray) := by
    simp [storeVar, sizeOf, typeInfo, hq, hs, Value.cells, hst]
  unfold gives execOp
  simp only [ho, hx, hy, Instr.storeAt, Instr.sureAddr, Sem.run_bind, Sem.run_pure, Result.andThen_ok, hrun]
  exact h _ (setRow_heap _ _ _ _ _ _ hg) (fun k hk => setRow_other _ _ _ _ (by omega)) ⟨rfl, rfl, rfl, by simp, fun k hk => setRow_other _ _ _ _ (by omega)⟩ (by simp)
end
theorem withOf_length (v : List Int) (r n : Int) : (withOf v r n).1.length = v.length := by
  unfold withOf
  split
  · rw [List.length_set, cleanOf_length]
  · rfl
/-- What an accepted operation leaves. -/
def Took (s : DocS) (x : OT) (s' : DocS) : Prop := ∃ (y : OT) (r : Bool) (l2 : Wd), OT.Ok y ∧ OT.Same x y ∧ Applied y s.la r l2 ∧ s' = ⟨(withOf s.v x.o.R x.o.N).1, tmax s.t x.o.T, assocPut s.l (okey x) y, l2⟩
noncomputable def da11 : Array Oper := regOf Tryz.f23 11
section
variable (B : DB) (s : DocS) (x : OT) (w0 w : World) (hB : Boxes w0 w (docBoxes B s)) (hs : DocOk s) (hw0 : Vars w0) (hx : OpIn w x.o x.t)
include hB hs hw0 hx
set_option maxRecDepth 100000 in
set_option maxHeartbeats 4000000 in
theorem dApply_ok (hg : x.good = true) (hh : hasB s.v x.o.R x.o.N = false) (hc : coversB s.v x.o.seen = true) (hm : mayB s x = true) (hM : x.o.M = 0) : Calls Tryz.prog 23 #[.pointer (some ⟨B.d, 0, none⟩), opv x.o] w fun e w' => ∃ s', e = .returned (.int .i64 0) ∧ Took s x s' ∧ Boxes w0 w' (docBoxes B s') ∧ ButS [B.d, B.po, B.b] w w' := by
  have HB := Lib.hid hB
  have hd := hB.doc.1
  have hw := hw0.step hB.below
  have HV0 := Lib.hid hw0
  have HO := Lib.hid (hx.ok (good_bare hx.vc hg).1 (good_bare hx.vc hg).2)
  have HG := Lib.hid hg
  have HM := Lib.hid hm
  have H0 := Lib.hid (show objkey x = zID by unfold mayB at hm; simpa using (Bool.and_eq_true_iff.1 hm).2)
  have HM0 := Lib.hid hM
  clear hm hM hB hw0
  have HD := Lib.hid hd
  have HK := Lib.hid hs
  have HX := Lib.hid hx
  have HV := Lib.hid hw
  have hxs := hx.seen
  have HC0 := Lib.hid (hx.vc)
  have hS : Boxes w (w.alloc (Obj.cells x.o.c 40)) [(w.heap.size, Obj.cells x.o.c 40)] := (Boxes.start w).alloc _
  have hg' : opB x.o (goodT x.t) (sameV x.t .no) (validS x.o.key).2 = true := hg
  clear hd hs hx hw hg
  go_enter Tryz.func23, Tryz.ntmps23
  go_upto_region 3 with (first | go_skip | ((with_reducible refine gate_op (op := .load 40 (.tmp 3)) rfl ?_); refine wpList_load_row' rfl 40 (.tmp 3) rfl _ rfl 40 _ (0, 0) _ (hS.at_ 0 rfl) Tryz.underlying40 rfl (op_info _ hxs) ?_) | (go_at_call 41; (with_reducible (refine (good_v x.o x.t _ (HV.out.step hS.below) hxs HC0.out ((HX.out.tin.move hS.below).up hS.below.size) HX.out.key).mono ?_)); rintro e wn ⟨rfl, hbn⟩; have hS1 := hS.step hbn; clear hS hbn; have hS := hS1; clear hS1))
  rename World => w3
  have dv := Lib.hid (cells_regrown (w := w3) (b := B.d) (i := 0) (cs := vcells s.v) (fun j v hv => doc_cell (HD.out.move hS.below) (docC_vec HK.out.v s.t B.po B.pj j v hv)))
  have di := Lib.hid (cells_regrown (w := w3) (b := w.heap.size) (i := 0) (cs := #[.int .i64 x.o.R, .int .i64 x.o.N]) (fun j v hv => (cell_of_row _ _ _ _ _ _ (hS.at_ 0 rfl)).trans (OpV.pId j v hv)))
  have cH := grown_calls (w := w3) (fun W' hb => Has_any s.v x.o.R x.o.N W' HK.out.v)
  rw [hh] at cH
  refine wp_region_quiet_below (by kernel_rfl) (by kernel_rfl) ?_
  repeat (first | go_big_quiet_skip | (refine BigFrame.wpQuiet_want rfl (fun K hK => ?_); refine quiet_load_cells 33 (.tmp 13) rfl _ _ rfl (vcells s.v) _ (dv.out) Tryz.underlying33 rfl (vec_info _ HK.out.v) ?_; refine hK _ ?_; clear hK K) | (refine BigFrame.wpQuiet_want rfl (fun K hK => ?_); refine quiet_load_cells 31 (.tmp 15) rfl _ _ rfl _ _ di.out Tryz.underlying31 rfl (id_info _ _) ?_; refine hK _ ?_; clear hK K) | (quiet_step (with_reducible exact cH _ _)))
  refine wpQuiet_nil ?_; rintro w4 ⟨⟨dq, osq⟩, rfl⟩; have hbn := below_regrown w3 dq osq; generalize Go.Sort.grow (redrawn w3 dq) osq = w4 at *
  have hS1 := hS.step hbn; clear hS hbn; have hS := hS1; clear hS1
  clear dv di cH
  go_upto_region 5 with go_skip
  have dv := Lib.hid (cells_regrown (w := w4) (b := B.d) (i := 0) (cs := vcells s.v) (fun j v hv => doc_cell (HD.out.move hS.below) (docC_vec HK.out.v s.t B.po B.pj j v hv)))
  have ds := Lib.hid (cells_regrown (w := w4) (b := w.heap.size) (i := 3) (cs := vcells x.o.seen) (fun j v hv => (cell_of_row _ _ _ _ _ _ (hS.at_ 0 rfl)).trans (OpV.pSeen hxs j v hv)))
  have cC := grown_calls (w := w4) (fun W' hb => Covers_any s.v x.o.seen W' HK.out.v hxs)
  rw [hc] at cC
  refine wp_region_quiet_below (by kernel_rfl) (by kernel_rfl) ?_
  repeat (first | go_big_quiet_skip | (refine BigFrame.wpQuiet_want rfl (fun K hK => ?_); refine quiet_load_cells 33 (.tmp 21) rfl _ _ rfl (vcells s.v) _ (dv.out) Tryz.underlying33 rfl (vec_info _ HK.out.v) ?_; refine hK _ ?_; clear hK K) | (refine BigFrame.wpQuiet_want rfl (fun K hK => ?_); refine quiet_load_cells 33 (.tmp 23) rfl _ _ rfl (vcells x.o.seen) _ (ds.out) Tryz.underlying33 rfl (vec_info _ hxs) ?_; refine hK _ ?_; clear hK K) | (quiet_step (with_reducible exact cC _ _)))
  refine wpQuiet_nil ?_; rintro w5 ⟨⟨dq, osq⟩, rfl⟩; have hbn := below_regrown w4 dq osq; generalize Go.Sort.grow (redrawn w4 dq) osq = w5 at *
  have hS1 := hS.step hbn; clear hS hbn; have hS := hS1; clear hS1
  clear dv ds cC
  go_upto_region 9 with (first | go_skip | ((with_reducible refine gate_op (op := .load 40 (.tmp 3)) rfl ?_); refine wpList_load_row' rfl 40 (.tmp 3) rfl _ rfl 40 _ (0, 0) _ (hS.at_ 0 rfl) Tryz.underlying40 rfl (op_info _ hxs) ?_) | (go_at_call 44; (with_reducible (refine (dMay_any B s x _ (HD.out.move hS.below) HK.out HO.out HG.out).mono ?_)); rintro e wn ⟨rfl, hbn⟩; rw [HM.out]; have hS1 := hS.step hbn; clear hS hbn; have hS := hS1; clear hS1))
  rename World => w9
  have hF : ButS [B.d, B.po, B.b] w w9 := ButS.of_below hS.below
  have hT := HB.out.app hS
  simp only [docBoxes, List.cons_append, List.nil_append] at hT
  clear hS
  have hS := hT
  clear hT
  go_upto_region 10 with (first | go_skip | ((with_reducible refine gate_op (op := .load 40 (.tmp 3)) rfl ?_); refine wpList_load_row' rfl 40 (.tmp 3) rfl _ rfl 40 _ (0, 0) _ (hS.at_ 6 rfl) Tryz.underlying40 rfl (op_info _ hxs) ?_) | (go_at_call 30; (with_reducible (refine (oCopy_op x _ HO.out).mono ?_)); rintro e wn ⟨y, rfl, hyo, hys, hbn⟩; have HY := Lib.hid hyo; have HYS := Lib.hid hys; have hyss := hyo.seen; clear hyo hys; have hF1 := hF.step hbn; have hS1 := hS.step hbn; clear hF hS hbn; have hF := hF1; have hS := hS1; clear hF1 hS1) | ((with_reducible refine gate_op (op := .store 40 (.tmp 3) (.tmp 33)) rfl ?_); refine wpList_store_row rfl 40 (.tmp 3) (.tmp 33) rfl _ y.o.c rfl rfl 40 _ (hS.at_ 6 rfl) (op_info _ hyss) ((OpV.size (o := x.o) hxs).trans (OpV.size (o := y.o) hyss).symm) (ot_one HY.out.vc) ?_; intro wn hbn hgn hon hsn; have hF1 := hF.put hon hbn (.inr (Nat.le_refl _)); have hS1 := hS.put 6 rfl hon hbn hgn; simp only [List.set_cons_zero, List.set_cons_succ] at hS1; clear hS hF hbn hgn hon hsn; have hS := hS1; have hF := hF1; clear hS1 hF1))
  rename World => w10
  have HN := Lib.hid (show y.o.R = x.o.R ∧ y.o.N = x.o.N ∧ y.o.T = x.o.T ∧ y.o.OR = x.o.OR ∧ y.o.ON = x.o.ON ∧ y.o.M = x.o.M from ⟨HYS.out.R.symm, HYS.out.N.symm, HYS.out.T.symm, HYS.out.OR.symm, HYS.out.ON.symm, HYS.out.M.symm⟩)
  have HOY : Hid (objkey y = zID) := Lib.hid (by unfold objkey; rw [HN.out.2.2.2.1, HN.out.2.2.2.2.1]; exact H0.out)
  have hu : lookV false ptrv (.pointer none) (assoc [(zID, B.x)] (objkey y)) = .pointer (some ⟨B.x, 0, none⟩) := by rw [HOY.out]; rfl
  have HIO : Hid (IdOk (objkey y)) := Lib.hid (by rw [HOY.out]; exact zID_ok)
  clear hh hc hg'
  have q66 := cell_regrown ((cell_of_row _ _ 66 _ _ _ (hS.at_ 5 rfl)).trans (docC_66 HK.out.v s.t B.po B.pj))
  have oj := Lib.hid (cells_regrown (w := w10) (b := w.heap.size) (i := 68) (cs := #[.int .i64 y.o.OR, .int .i64 y.o.ON]) (fun j v hv => (cell_of_row _ _ _ _ _ _ (hS.at_ 6 rfl)).trans (OpV.pObj hyss j v hv)))
  have pj := hS.at_ 1 rfl
  refine wp_region_quiet_below (by kernel_rfl) (by kernel_rfl) ?_
  repeat (first | go_big_quiet_skip | (refine BigFrame.wpQuiet_want rfl (fun K hK => ?_); refine quiet_load_cells 31 (.tmp 38) rfl _ _ rfl _ _ oj.out Tryz.underlying31 rfl (id_info _ _) ?_; refine hK _ ?_; clear hK K) | (refine BigFrame.wpQuiet_want rfl (fun K hK => ?_); refine quiet_look (kf := idv) (vf := ptrv) (k := objkey y) (.tmp 37) (.tmp 39) false rfl id_key mapd_under (root_keys B.x) HIO.out rfl rfl (obj_regrown pj) obj_zero hu ?_; refine hK _ ?_; clear hK K) | (quiet_step (fail)))
  refine wpQuiet_nil ?_; rintro wq ⟨⟨dq, osq⟩, rfl⟩; have hbn := below_regrown w10 dq osq; generalize Go.Sort.grow (redrawn w10 dq) osq = wq at *
  have hF1 := hF.step hbn; have hS1 := hS.step hbn; clear hF hS hbn; have hF := hF1; have hS := hS1; clear hF1 hS1
  clear q66 oj pj hu
  rename World => w11
  go_upto_region 11 with go_skip
  have dv := Lib.hid (cells_regrown (w := w11) (b := B.d) (i := 0) (cs := vcells s.v) (fun j v hv => (cell_of_row _ _ _ _ _ _ (hS.at_ 5 rfl)).trans (docC_vec HK.out.v s.t B.po B.pj j v hv)))
  have di := Lib.hid (cells_regrown (w := w11) (b := w.heap.size) (i := 0) (cs := #[.int .i64 y.o.R, .int .i64 y.o.N]) (fun j v hv => (cell_of_row _ _ _ _ _ _ (hS.at_ 6 rfl)).trans (OpV.pId j v hv)))
  have cW := grown_calls (w := w11) (fun W' hb => With_any s.v y.o.R y.o.N W' HK.out.v)
  have HLV : Hid ((withOf s.v y.o.R y.o.N).1.length = 64) := Lib.hid ((withOf_length _ _ _).trans HK.out.v)
  have hdb := hS.at_ 5 rfl
  generalize hv2 : (withOf s.v y.o.R y.o.N) = wv at *
  refine wp_region_deed da11 (by kernel_rfl) 13 (by kernel_rfl) (by kernel_rfl) (by kernel_rfl) (by decide) (by kernel_rfl) (by kernel_rfl) (fun _ W => W.heap[B.d]? = some (docO wv.1 s.t B.po B.pj) ∧ But B.d w11 W) ?_
  simp only [List.take_succ_cons, List.take_zero]
  repeat (first | go_big_quiet_skip | (refine BigFrame.wpQuiet_want rfl (fun K hK => ?_); refine quiet_load_cells 33 (.tmp 45) rfl _ _ rfl (vcells s.v) _ (dv.out) Tryz.underlying33 rfl (vec_info _ HK.out.v) ?_; refine hK _ ?_; clear hK K) | (refine BigFrame.wpQuiet_want rfl (fun K hK => ?_); refine quiet_load_cells 31 (.tmp 47) rfl _ _ rfl _ _ di.out Tryz.underlying31 rfl (id_info _ _) ?_; refine hK _ ?_; clear hK K) | (quiet_step (with_reducible exact cW _ _)))
  refine wpQuiet_nil ?_
  intro o ho
  simp only [List.getElem?_toArray, List.getElem?_cons_succ, List.getElem?_cons_zero, Option.some.injEq] at ho
  subst ho
  refine ⟨rfl, ?_, ?_⟩
  · intro W hW
    exact gives_store_sub 33 (.tmp 53) (.tmp 50) rfl B.d 0 (vcells wv.1) rfl rfl (fun v hv => (Array.all_eq_true_iff_forall_mem.1 (vcells_one wv.1)) v (Array.mem_toList_iff.1 hv)) 72 (docC s.v s.t B.po B.pj) ((hW.block _ (Array.getElem?_eq_some_iff.1 hdb).1).trans hdb) (by rw [docC_size HK.out.v, vcells_size, HLV.out]; decide) (vec_info _ HLV.out) (fun W' hg ho hb hsz => ⟨by rw [hg, docC_putV HK.out.v HLV.out]; rfl, (But.of_below hW).then (But.turn ho hb)⟩)
  rintro v W ⟨hgn, hbut⟩
  have hF1 := hF.turn hbut (.inl (by simp))
  have hS1 := hS.turn 5 rfl hbut hgn
  simp only [List.set_cons_zero, List.set_cons_succ] at hS1
  clear hS hF hbut hgn dv di cW hdb
  have hS := hS1
  have hF := hF1
  clear hS1 hF1
  simp only [List.drop_succ_cons, List.drop_zero, Act.put, List.setIfInBounds_toArray, List.set_cons_zero, List.set_cons_succ]
  go_upto_region 12 with go_skip
  rename World => w12
  have q64 := cell_regrown ((cell_of_row _ _ 64 _ _ _ (hS.at_ 5 rfl)).trans (docC_64 HLV.out s.t B.po B.pj))
  have q2 := cell_regrown ((cell_of_row _ _ 2 _ _ _ (hS.at_ 6 rfl)).trans OpV.g2)
  refine wp_region_tail_below 8 (by kernel_rfl) (by kernel_rfl) (by kernel_rfl) (by decide) (by kernel_rfl) ?_; simp only [List.take_succ_cons, List.take_zero, List.drop_succ_cons, List.drop_zero]
  repeat (first | go_big_quiet_skip | (quiet_step (fail)))
  refine wpQuiet_nil ?_; rintro wq ⟨⟨dq, osq⟩, rfl⟩; have hbn := below_regrown w12 dq osq; generalize Go.Sort.grow (redrawn w12 dq) osq = wq at *
  have hF1 := hF.step hbn; have hS1 := hS.step hbn; clear hF hS hbn; have hF := hF1; have hS := hS1; clear hF1 hS1
  clear q64 q2
  go_upto_region 13 with (first | ((with_reducible refine gate_op (op := .store 2 (.tmp 63) (.tmp 61)) rfl ?_); refine store_elem rfl 2 (.tmp 63) (.tmp 61) rfl B.d 64 (.int .i64 (tmax s.t y.o.T)) rfl rfl rfl 72 _ _ (hS.at_ 5 rfl) (docC_64 HLV.out s.t B.po B.pj) (by kernel_rfl) ?_; intro wn hgn hon hbn hsn; rw [docC_putT HLV.out] at hgn; have hF1 := hF.put hon hbn (.inl (by simp)); have hS1 := hS.put 5 rfl hon hbn hgn; simp only [List.set_cons_zero, List.set_cons_succ] at hS1; clear hS hF hbn hgn hon hsn; have hS := hS1; have hF := hF1; clear hS1 hF1) | go_skip)
  rename World => w13
  have q65 := cell_regrown ((cell_of_row _ _ 65 _ _ _ (hS.at_ 5 rfl)).trans (docC_65 HLV.out (tmax s.t y.o.T) B.po B.pj))
  have di := Lib.hid (cells_regrown (w := w13) (b := w.heap.size) (i := 0) (cs := #[.int .i64 y.o.R, .int .i64 y.o.N]) (fun j v hv => (cell_of_row _ _ _ _ _ _ (hS.at_ 6 rfl)).trans (OpV.pId j v hv)))
  have r3 := hS.at_ 6 rfl
  refine wp_region_tail_below 7 (by kernel_rfl) (by kernel_rfl) (by kernel_rfl) (by decide) (by kernel_rfl) ?_; simp only [List.take_succ_cons, List.take_zero, List.drop_succ_cons, List.drop_zero]
  repeat (first | go_big_quiet_skip | (refine BigFrame.wpQuiet_want rfl (fun K hK => ?_); refine quiet_load_cells 31 (.tmp 68) rfl _ _ rfl _ _ di.out Tryz.underlying31 rfl (id_info _ _) ?_; refine hK _ ?_; clear hK K) | (refine BigFrame.wpQuiet_want rfl (fun K hK => ?_); refine quiet_load_row 40 (.tmp 3) rfl _ rfl 40 _ (0, 0) _ (row_regrown r3) Tryz.underlying40 rfl (op_info _ hyss) ?_; refine hK _ ?_; clear hK K) | (quiet_step (fail)))
  refine wpQuiet_nil ?_; rintro wq ⟨⟨dq, osq⟩, rfl⟩; have hbn := below_regrown w13 dq osq; generalize Go.Sort.grow (redrawn w13 dq) osq = wq at *
  have hF1 := hF.step hbn; have hS1 := hS.step hbn; clear hF hS hbn; have hF := hF1; have hS := hS1; clear hF1 hS1
  clear q65 di r3
  go_upto_region 14 with (first | ((with_reducible refine gate_op (op := .mapUpdate 67 (.tmp 67) (.tmp 69) (.tmp 70)) rfl ?_); refine update_arm (kf := idv) (vf := OT.v) (k := okey y) rfl (.tmp 67) (.tmp 69) (.tmp 70) rfl id_key mapops_under HK.out.keys HY.out.okey rfl rfl y rfl (hS.at_ 0 rfl) ?_; intro wn hgn hon hbn hsn; have hF1 := hF.put hon hbn (.inl (by simp)); have hS1 := hS.put 0 rfl hon hbn hgn; simp only [List.set_cons_zero, List.set_cons_succ] at hS1; clear hS hF hbn hgn hon hsn; have hS := hS1; have hF := hF1; clear hS1 hF1) | go_skip)
  rename World => w14
  have x73 := (cell_of_row _ _ 73 _ _ _ (hS.at_ 6 rfl)).trans (OpV.g73 hyss)
  rw [HN.out.2.2.2.2.2, HM0.out] at x73
  have o1 : w14.cell? ⟨B.x, 1, none⟩ = some (.pointer (some ⟨B.m, 0, none⟩)) := (cell_of_row _ _ 1 _ _ _ (hS.at_ 4 rfl)).trans rfl
  go_upto_region 17 with go_skip
  have q1 := cell_regrown o1
  have r3 := hS.at_ 6 rfl
  refine wp_region_tail_below 5 (by kernel_rfl) (by kernel_rfl) (by kernel_rfl) (by decide) (by kernel_rfl) ?_; simp only [List.take_succ_cons, List.take_zero, List.drop_succ_cons, List.drop_zero]
  repeat (first | go_big_quiet_skip | (refine BigFrame.wpQuiet_want rfl (fun K hK => ?_); refine quiet_load_row 40 (.tmp 3) rfl _ rfl 40 _ (0, 0) _ (row_regrown r3) Tryz.underlying40 rfl (op_info _ hyss) ?_; refine hK _ ?_; clear hK K) | (quiet_step (fail)))
  refine wpQuiet_nil ?_; rintro wq ⟨⟨dq, osq⟩, rfl⟩; have hbn := below_regrown w14 dq osq; generalize Go.Sort.grow (redrawn w14 dq) osq = wq at *
  have hF1 := hF.step hbn; have hS1 := hS.step hbn; clear hF hS hbn; have hF := hF1; have hS := hS1; clear hF1 hS1
  clear q1 r3 x73 o1
  go_wp2_with (first | go_skip | (go_at_call 46; have q0 := hS.at_ 2 rfl; have q1 := hS.at_ 3 rfl; (with_reducible (refine (lApply_any y s.la B.m B.b _ (HV0.out.step hS.below) (HY.out.opin _) HK.out.la q1 q0).mono ?_)); clear q0 q1; rintro e wn ⟨r, l2, rfl, ha, hgn, hbut⟩; have HA := Lib.hid ha; have hF1 := hF.turn hbut (.inl (by simp)); have hS1 := hS.turn 2 rfl hbut hgn; simp only [List.set_cons_zero, List.set_cons_succ] at hS1; clear hS hF hbut hgn ha; have hS := hS1; have hF := hF1; clear hS1 hF1))
  go_ret
  refine ⟨⟨wv.1, tmax s.t y.o.T, assocPut s.l (okey y) y, l2⟩, rfl, ⟨y, r, l2, HY.out, HYS.out, HA.out, ?_⟩, hS.drop (n := 6), hF⟩
  rw [← hv2, HN.out.1, HN.out.2.1, HN.out.2.2.1]
  unfold okey
  rw [HN.out.1, HN.out.2.1]
end
end Go.Proofs.YtffcpmohanhihaaGreatDoor
