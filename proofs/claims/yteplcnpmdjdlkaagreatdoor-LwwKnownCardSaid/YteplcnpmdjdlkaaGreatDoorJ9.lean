/-
  An operation over its value; one that may be has a value without parts. No condition.
  ops.Copy tells an operation alike. Condition: the operation's value has no parts.
-/
import Derived.Test.YteplcnpmdjdlkaaGreatDoorJ7
import Derived.Test.YteplcnpmdjdlkaaGreatDoorJ5
import Derived.Test.YteplcnpmdjdlkaaGreatDoorOpenOpJ
import Derived.Test.YteplcnpmdjdlkaaGreatDoorJ8
import Derived.Test.YteplcnpmdjdlkaaGreatDoorCopyJ
namespace Go.Proofs.YteplcnpmdjdlkaaGreatDoor
open Go.RowKit
set_option linter.unusedVariables false
set_option linter.unusedSimpArgs false
structure OT where
  o : OpV
  t : VT
namespace OT
def good (x : OT) : Bool := opB x.o (goodT x.t) (sameV x.t .no) (validS x.o.key).2
def same (x y : OT) : Bool := sameO x.o y.o x.t y.t
def v (x : OT) : Value := opv x.o
/-- What holds of an operation in whatever world. -/
structure Ok (x : OT) : Prop where
  seen : x.o.seen.length = 64
  vc : x.o.vc = x.t.c
  key : x.o.key.size ≤ 9223372036854775807
  r : -9223372036854775808 ≤ x.o.R ∧ x.o.R ≤ 9223372036854775807
  n : -9223372036854775808 ≤ x.o.N ∧ x.o.N ≤ 9223372036854775807
  t : -9223372036854775808 ≤ x.o.T ∧ x.o.T ≤ 9223372036854775807
  tin : ∀ B W, VT.In B W x.t
  ln : x.t.ln = 0
  mn : x.t.mn = 0
end OT
theorem VT.In.bare {B B' : Nat} {W W' : World} {t : VT} (h : VT.In B W t) (hl : t.ln = 0) (hm : t.mn = 0) : VT.In B' W' t :=
  .mk { h.here with
      la := fun hn => absurd hn (by omega)
      ma := fun hn => absurd hn (by omega)
      lcell := fun i hi => absurd hi (by omega)
      mcell := fun i hi => absurd hi (by omega) }
    (fun i hi => absurd hi (by omega)) (fun i hi => absurd hi (by omega))
theorem VT.Sm.bare {t : VT} (hl : t.ln = 0) (hm : t.mn = 0) : VT.Sm t := .mk (by omega) (by omega) (fun i hi => absurd hi (by omega)) (fun i hi => absurd hi (by omega))
theorem own_of_good {t : VT} (h : goodT t = true) : ownV t = true := by
  cases hq : ownV t with
  | true => rfl
  | false =>
    exfalso
    unfold goodT at h
    cases t with
    | no => rw [judgeT, hq] at h; simp at h
    | mk k n s lA lb lo ln lc lt mA mb mo mn mc key mt => rw [judgeT, hq] at h; simp at h
theorem own_bare {t : VT} (h : ownV t = true) (h5 : (t.k == 5) = false) (h6 : (t.k == 6) = false) : t.ln = 0 ∧ t.mn = 0 := by
  unfold ownV ownB at h
  rw [h5, h6] at h
  generalize (intN t.s.data.toList).isSome = a1 at h
  generalize goodN t.s.data.toList = a2 at h
  generalize (letC t.s == 0) = a3 at h
  generalize stampB t.s = a4 at h
  repeat' split at h
  all_goals first
    | (cases h; done)
    | (simp only [Bool.and_eq_true, beq_iff_eq] at h; exact ⟨h.1.2, h.2⟩)
    | (rename_i h9; simp only [Bool.not_eq_true', Bool.or_eq_true, not_or, Bool.not_eq_false', Bool.not_eq_false, beq_iff_eq] at h9; exact ⟨h9.1.2, h9.2⟩)
    | simp_all
theorem same_no_bare {t : VT} (h : sameV t .no = true) : t.ln = 0 ∧ t.mn = 0 := by
  obtain ⟨_, _, h3, h4, _⟩ := sameV_parts h
  exact ⟨h3, h4⟩
/-- One that may be has a value without parts. -/
theorem good_bare {o : OpV} {t : VT} (hv : o.vc = t.c) (h : opB o (goodT t) (sameV t .no) (validS o.key).2 = true) : t.ln = 0 ∧ t.mn = 0 := by
  have hk : t.k = o.VK := by
    have := congrArg (fun a => a[0]?) hv
    simp [OpV.vc, VT.c] at this
    exact this.symm
  unfold opB at h
  simp only [Bool.and_eq_true] at h
  have hm := h.1.2
  unfold makesB at hm
  split at hm
  · simp only [Bool.and_eq_true, bne_iff_ne, ne_eq] at hm
    exact own_bare (own_of_good hm.2) (by rw [hk]; simpa using hm.1.1) (by rw [hk]; simpa using hm.1.2)
  · split at hm
    · exact same_no_bare hm
    · cases hm
theorem OpIn.ok {W : World} {o : OpV} {t : VT} (h : OpIn W o t) (hl : t.ln = 0) (hm : t.mn = 0) : OT.Ok ⟨o, t⟩ := ⟨h.seen, h.vc, h.key, h.r, h.n, h.t, fun B W' => h.tin.bare hl hm, hl, hm⟩
theorem OT.Ok.opin {x : OT} (h : OT.Ok x) (W : World) : OpIn W x.o x.t := ⟨h.seen, h.vc, h.tin _ _, h.key, h.r, h.n, h.t⟩
/-- What being alike comes to. -/
structure OT.Same (x y : OT) : Prop where
  R : x.o.R = y.o.R
  N : x.o.N = y.o.N
  T : x.o.T = y.o.T
  seen : x.o.seen = y.o.seen
  K : x.o.K = y.o.K
  OR : x.o.OR = y.o.OR
  ON : x.o.ON = y.o.ON
  key : x.o.key = y.o.key
  AR : x.o.AR = y.o.AR
  AN : x.o.AN = y.o.AN
  M : x.o.M = y.o.M
  V : sameV x.t y.t = true
theorem OT.same_iff {x y : OT} : OT.same x y = true ↔ OT.Same x y := by
  unfold OT.same sameO
  constructor
  · intro h
    simp only [Bool.and_eq_true, beq_iff_eq] at h
    obtain ⟨⟨⟨⟨⟨⟨⟨⟨h1, h2, h3⟩, h4⟩, h5⟩, h6⟩, h7, h8⟩, h9⟩, h10, h11⟩, h12⟩ := h
    exact ⟨h2, h3, h4, h5, h6, h7, h8, ba_eq (by simpa using h9), h10, h11, h12, h1⟩
  · rintro ⟨h1, h2, h3, h4, h5, h6, h7, h8, h9, h10, h11, h12⟩
    simp [h1, h2, h3, h4, h5, h6, h7, h8, h9, h10, h11, h12]
theorem OT.Same.refl (x : OT) : OT.Same x x := ⟨rfl, rfl, rfl, rfl, rfl, rfl, rfl, rfl, rfl, rfl, rfl, sameV_self _⟩
theorem OT.Same.symm {x y : OT} (h : OT.Same x y) : OT.Same y x := ⟨h.R.symm, h.N.symm, h.T.symm, h.seen.symm, h.K.symm, h.OR.symm, h.ON.symm, h.key.symm, h.AR.symm, h.AN.symm, h.M.symm, sameV_symm h.V⟩
theorem OT.Same.trans {x y z : OT} (h : OT.Same x y) (k : OT.Same y z) : OT.Same x z := ⟨h.R.trans k.R, h.N.trans k.N, h.T.trans k.T, h.seen.trans k.seen, h.K.trans k.K, h.OR.trans k.OR, h.ON.trans k.ON, h.key.trans k.key, h.AR.trans k.AR, h.AN.trans k.AN, h.M.trans k.M, sameV_trans h.V k.V⟩
end Go.Proofs.YteplcnpmdjdlkaaGreatDoor
namespace Go.Proofs.YteplcnpmdjdlkaaGreatDoor
open Go.RowKit
set_option linter.unusedVariables false
set_option linter.unusedSimpArgs false
def OT.put (x : OT) (t : VT) : OT := ⟨{ x.o with VK := t.k, VN := t.n, VS := t.s, VL := t.L, VM := t.M }, t⟩
def opHead (o : OpV) : List Value := [Value.int .i64 o.R, Value.int .i64 o.N, Value.int .i64 o.T] ++ o.seen.map (Value.int .i64) ++ [Value.int .i64 o.K, Value.int .i64 o.OR, Value.int .i64 o.ON, Value.string o.key, Value.int .i64 o.AR, Value.int .i64 o.AN, Value.int .i64 o.M]
theorem put_c (x : OT) (t : VT) (h : x.o.seen.length = 64) : (x.o.c.toList.take 74 ++ t.c.toList ++ x.o.c.toList.drop 79).toArray = (x.put t).o.c := by
  have e : x.o.c.toList = opHead x.o ++ x.o.v := by simp [OpV.c, OpV.l, opHead]
  have hl : (opHead x.o).length = 74 := by simp [opHead, h]
  rw [e, List.take_left' hl, List.drop_eq_nil_of_le (by rw [List.length_append, hl]; simp [OpV.v])]
  simp [OT.put, OpV.c, OpV.l, OpV.v, VT.c, opHead]
theorem ot_one {x : OT} (h : x.o.vc = x.t.c) : x.o.c.all (·.oneCell') = true := by
  have h3 := congrArg (fun a => a[3]?) h
  have h4 := congrArg (fun a => a[4]?) h
  simp [OpV.vc, VT.c] at h3 h4
  exact op_one (by rw [h3]; rfl) (by rw [h4]; rfl)
set_option maxRecDepth 100000 in
set_option maxHeartbeats 2000000 in
theorem oCopy_any (x : OT) (w : World) (hx : OT.Ok x) : Calls Tryz.prog 24 #[x.v] w fun e w' => ∃ y : OT, e = .returned y.v ∧ OT.Ok y ∧ OT.Same x y ∧ Below w.heap.size w w' := by
  have hs := hx.seen
  have HX := Lib.hid hx
  clear hx
  have hS : Boxes w (w.alloc (Obj.cells x.o.c 36)) [(w.heap.size, Obj.cells x.o.c 36)] := (Boxes.start w).alloc (Obj.cells x.o.c 36)
  have hW0 : (w.alloc (Obj.cells x.o.c 36)).heap.size = w.heap.size + 1 := Array.size_push ..
  show Calls Tryz.prog 24 #[opv x.o] w _
  go_enter Tryz.func24, Tryz.ntmps24
  go_wp2_with (first | go_skip | ((with_reducible refine gate_op (op := .alloc 36) rfl ?_); generalize (w.alloc (Obj.cells x.o.c 36)) = W0 at *; refine alloc_arm rfl 36 rfl (op_alloc _) ?_; intro wn hbn hgn; have hS1 := hS.new hbn hgn; rw [hW0] at hS1; clear hS hbn hgn; have hS := hS1; clear hS1) | (refine load_part rfl 34 (.tmp 3) rfl _ 74 rfl _ _ (0, 0) _ _ (hS.at_ 0 rfl) (OpV.pV hs) Tryz.underlying34 rfl (val_info _) ?_) | (go_at_call 39; rw [HX.out.vc]; refine (vCopy_any x.t _ (HX.out.tin _ _) (VT.Sm.bare HX.out.ln HX.out.mn)).mono ?_; rintro e wn ⟨y, rfl, hy, hbn⟩; have hS1 := hS.step hbn; clear hS hbn; have hS := hS1; clear hS1; have HY := Lib.hid hy; clear hy) | ((with_reducible refine gate_op (op := .store 34 (.tmp 6) (.tmp 5)) rfl ?_); refine store_sub rfl 34 (.tmp 6) (.tmp 5) rfl w.heap.size 74 y.c rfl rfl (all_mem (VT.c_one _)) 36 x.o.c (hS.at_ 0 rfl) (by rw [OpV.size hs]; exact Nat.le_refl 79) (VT.val_info _) ?_; intro wn hgn hon hbn hsn; rw [show 74 + y.c.size = 79 from rfl, put_c x y hs] at hgn; have hS1 := hS.put 0 rfl hon hbn hgn; clear hS hgn hon hbn hsn; have hS := hS1; clear hS1) | ((with_reducible refine gate_op (op := .load 36 (.tmp 1)) rfl ?_); refine wpList_load_row' rfl 36 (.tmp 1) rfl _ rfl 36 _ (0, 0) _ (hS.at_ 0 rfl) Tryz.underlying36 rfl (op_info _ hs) ?_) | ((with_reducible refine gate_op (op := .store 36 (.tmp 2) (.tmp 7)) rfl ?_); refine wpList_store_row rfl 36 (.tmp 2) (.tmp 7) rfl _ (x.put y).o.c rfl rfl 36 _ (hS.at_ 1 rfl) (op_info _ hs) ((OpV.size (o := zeroO) rfl).trans (OpV.size (o := (x.put y).o) hs).symm) (ot_one (x := x.put y) rfl) ?_; intro wn hbn hgn hon hsn; have hS1 := hS.put 1 rfl hon hbn hgn; clear hS hbn hgn hon hsn; have hS := hS1; clear hS1))
  have hln : y.ln = 0 := by obtain ⟨_, _, h3, _⟩ := sameV_parts HY.out.same; rw [h3]; exact HX.out.ln
  have hmn : y.mn = 0 := by obtain ⟨_, _, _, h4, _⟩ := sameV_parts HY.out.same; rw [h4]; exact HX.out.mn
  exact bodyPost_ret (v := opv (x.put y).o) (results_cell_row rfl _ _ _ _ _ _ _ rfl (hS.at_ 1 rfl) Tryz.underlying36 rfl (op_info (x.put y).o hs)) rfl
    ⟨x.put y, rfl, ⟨hs, rfl, HX.out.key, HX.out.r, HX.out.n, HX.out.t, fun B W => HY.out.tin.bare hln hmn, hln, hmn⟩, ⟨rfl, rfl, rfl, rfl, rfl, rfl, rfl, rfl, rfl, rfl, rfl, sameV_symm HY.out.same⟩, hS.below⟩
end Go.Proofs.YteplcnpmdjdlkaaGreatDoor
