/-
  The reference's Word: the last word on a key of an object, out of a row of operations. No condition.
-/
import Derived.Test.YtffcpmohanhihaaGreatDoorJ17
import Derived.Test.YtffcpmohanhihaaGreatDoorJ18
import Derived.Test.YtffcpmohanhihaaGreatDoorJ14
namespace Go.Proofs.YtffcpmohanhihaaGreatDoor
open Go.RowKit Go.Sort
set_option linter.unusedVariables false
set_option linter.unusedSimpArgs false
set_option linter.unusedSectionVars false
/-- A row of operations. -/
structure OpsIn (B : Nat) (W : World) (A : Option Addr) (g o : Nat) (L : List OT) : Prop where
  a : 0 < L.length → A = some ⟨g, o, none⟩ ∧ g < B
  c : ∀ (i : Nat) x, L[i]? = some x → ∀ (j : Nat) v, x.o.c[j]? = some v → W.cell? ⟨g, o + i * 79 + j, none⟩ = some v
  ok : ∀ x ∈ L, OT.Ok x
theorem OpsIn.move {B : Nat} {W W' : World} {A : Option Addr} {g o : Nat} {L : List OT} (h : OpsIn B W A g o L) (hb : Below B W W') : OpsIn B W' A g o L :=
  ⟨h.a, fun i x hx j v hv => by
    have h0 : 0 < L.length := by have := (List.getElem?_eq_some_iff.1 hx).1; omega
    exact (hb.cell (p := ⟨g, o + i * 79 + j, none⟩) (h.a h0).2).trans (h.c i x hx j v hv), h.ok⟩
theorem OpsIn.up {B B' : Nat} {W : World} {A : Option Addr} {g o : Nat} {L : List OT} (h : OpsIn B W A g o L) (hb : B ≤ B') : OpsIn B' W A g o L := ⟨fun h0 => ⟨(h.a h0).1, Nat.lt_of_lt_of_le (h.a h0).2 hb⟩, h.c, h.ok⟩
theorem info79 : (Tryz.prog.info? 40).map (·.size) = some 79 := by kernel_rfl
theorem OpsIn.ix {B : Nat} {W : World} {A : Option Addr} {g o : Nat} {L : List OT} (h : OpsIn B W A g o L) {i : Nat} (hi : i < L.length) (c : Nat) (V : World) : (Instr.indexAt 49 (.slice A L.length c) (.int .i64 (i : Int))).run Tryz.prog V = .ok (.pointer (some ⟨g, o + i * 79, none⟩)) V :=
  run_index_row (P := Tryz.prog) 49 40 Tryz.underlying49 79 info79 (h.a (by omega)).1 hi c V
/-- Does an operation speak of this key of this object? -/
def onKey (r n : Int) (key : ByteArray) (x : OT) : Bool := decide (x.o.K ≤ 2) && (x.o.OR == r && x.o.ON == n) && (x.o.key.toList == key.toList)
def wdStep (r n : Int) (key : ByteArray) (st : OT × Bool) (x : OT) : OT × Bool := if onKey r n key x && (!st.2 || afterB x.o st.1.o) then (x, true) else st
def wdFold (r n : Int) (key : ByteArray) (L : List OT) : OT × Bool := L.foldl (wdStep r n key) (zOT, false)
theorem wdFold_succ (r n : Int) (key : ByteArray) (L : List OT) {i : Nat} {x : OT} (hx : L[i]? = some x) : wdFold r n key (L.take (i + 1)) = wdStep r n key (wdFold r n key (L.take i)) x := by
  unfold wdFold
  rw [List.take_add_one, hx]
  simp
theorem wdFold_ok (r n : Int) (key : ByteArray) (L : List OT) (h : ∀ x ∈ L, OT.Ok x) : OT.Ok (wdFold r n key L).1 := by
  unfold wdFold
  have key2 : ∀ (L : List OT) (st : OT × Bool), OT.Ok st.1 → (∀ x ∈ L, OT.Ok x) → OT.Ok (L.foldl (wdStep r n key) st).1 := by
    intro L
    induction L with
    | nil => intro st h _; exact h
    | cons x L ih =>
      intro st h1 h2
      rw [List.foldl_cons]
      refine ih _ ?_ (fun y hy => h2 y (List.mem_cons_of_mem _ hy))
      unfold wdStep
      split
      · exact h2 x (List.mem_cons_self ..)
      · exact h1
  exact key2 L _ zOT_ok h
noncomputable def wd8 : Array Oper := regOf Tryz.f35 8
section
variable (r n : Int) (key : ByteArray) (A : Option Addr) (g o c : Nat) (L : List OT) (w : World) (hL : OpsIn w.heap.size w A g o L) (hn : L.length ≤ 1000000) (hk : KSz key)
include hL hn hk
set_option maxRecDepth 100000 in
set_option maxHeartbeats 4000000 in
theorem rWord_any : Calls Tryz.prog 35 #[.slice A L.length c, .agg #[Value.int .i64 r, Value.int .i64 n], .string key] w fun e w' => e = .returned (.tuple #[opv (wdFold r n key L).1.o, .bool ((wdFold r n key L).2 && (wdFold r n key L).1.o.K == 1)]) ∧ Below w.heap.size w w' := by
  have HL := Lib.hid hL
  have hS : Boxes w (w.alloc (Obj.cells #[Value.int .i64 r, Value.int .i64 n] 31)) [(w.heap.size, Obj.cells #[Value.int .i64 r, Value.int .i64 n] 31)] := (Boxes.start w).alloc _
  have hW0 : (w.alloc (Obj.cells #[Value.int .i64 r, Value.int .i64 n] 31)).heap.size = w.heap.size + 1 := Array.size_push ..
  have b1 := Lib.hid op_build0
  clear hL
  go_enter Tryz.func35, Tryz.ntmps35
  go_wp2_with (first | ((with_reducible refine gate_op (op := .build 40 #[]) rfl ?_); refine build_arm rfl 40 #[] rfl #[] (by simp only [List.map_toArray, List.map_cons, List.map_nil]; rfl) _ (b1.out _) ?_) | go_skip | ((with_reducible refine gate_op (op := .alloc 40) rfl ?_); generalize (w.alloc (Obj.cells #[Value.int .i64 r, Value.int .i64 n] 31)) = W0 at *; refine alloc_arm rfl 40 rfl (op_alloc _) ?_; intro wn hbn hgn; have hS1 := hS.new hbn hgn; rw [hW0] at hS1; (try simp only [List.nil_append, List.cons_append, List.set_cons_zero, List.set_cons_succ] at hS1); clear hS hbn hgn; have hS := hS1; clear hS1) | ((with_reducible refine gate_op (op := .alloc 40) rfl ?_); refine alloc_arm rfl 40 rfl (op_alloc _) ?_; intro wn hbn hgn; have hS1 := hS.new hbn hgn; (try simp only [List.nil_append, List.cons_append, List.set_cons_zero, List.set_cons_succ] at hS1); clear hS hbn hgn; have hS := hS1; clear hS1) | ((with_reducible refine gate_op (op := .store 40 (.tmp 8) (.tmp 12)) rfl ?_); refine wpList_store_row rfl 40 (.tmp 8) (.tmp 12) rfl _ zeroO.c rfl rfl 40 _ (hS.at_ 2 rfl) (op_info _ rfl) rfl (op_one rfl rfl) ?_; intro wn hbn hgn hon hsn; have hS1 := hS.put 2 rfl hon hbn hgn; (try simp only [List.nil_append, List.cons_append, List.set_cons_zero, List.set_cons_succ] at hS1); clear hS hbn hgn hon hsn; have hS := hS1; clear hS1))
  rename World => w2
  rename_i _ w1 _ _
  go_loopw [9, 10] (fun ok iv wr => ∃ j : Nat, j ≤ L.length ∧ ok = .bool (wdFold r n key (L.take j)).2 ∧ iv = .int .i64 (j : Int) ∧ Boxes w wr [(w.heap.size, Obj.cells #[Value.int .i64 r, Value.int .i64 n] 31), (w.heap.size + 1, Obj.cells zeroO.c 40), (w1.heap.size, Obj.cells (wdFold r n key (L.take j)).1.o.c 40)]) (fun _ iv _ => L.length - (intOf iv).toNat)
  case atStart => exact ⟨0, Nat.zero_le _, rfl, rfl, hS⟩
  case round =>
    clear hS hW0
    rename_i wr
    obtain ⟨j, hj, rfl, rfl, hS⟩ := hrel
    by_cases hlt : j < L.length
    · have hltb : decide ((j : Int) < L.length) = true := by simp; omega
      obtain ⟨x, hx⟩ : ∃ x, L[j]? = some x := ⟨_, List.getElem?_eq_getElem hlt⟩
      have HX := Lib.hid (HL.out.ok x (List.mem_of_getElem? hx))
      have hxs := HX.out.seen
      have cX := Lib.hid (fun q v hv => (HL.out.move hS.below).c j x hx q v hv)
      have ix := HL.out.ix hlt c
      have HS := Lib.hid (wdFold_succ r n key L hx)
      have HM := Lib.hid (wdFold_ok r n key (L.take j) (fun y hy => HL.out.ok y (List.mem_of_mem_take hy)))
      have hms := HM.out.seen
      clear hx
      generalize hm : wdFold r n key (L.take j) = m at *
      have hT : Hid True := Lib.hid trivial
      cases h1 : decide (x.o.K ≤ 2)
      · have hN : Hid (wdStep r n key m x = m) := Lib.hid (by unfold wdStep onKey; rw [h1]; rfl)
        go_wp2_with (first | go_skip | ((with_reducible refine gate_op (op := .load 40 (.tmp 21)) rfl ?_); refine load_cells rfl 40 (.tmp 21) rfl _ _ rfl x.o.c _ cX.out Tryz.underlying40 rfl (op_info _ hxs) ?_) | ((with_reducible refine gate_op (op := .alloc 40) rfl ?_); refine alloc_arm rfl 40 rfl (op_alloc _) ?_; intro wn hbn hgn; have hS1 := hS.new hbn hgn; (try simp only [List.nil_append, List.cons_append, List.set_cons_zero, List.set_cons_succ] at hS1); clear hS hbn hgn; have hS := hS1; clear hS1) | (((with_reducible refine gate_op (op := .store 40 (.tmp 11) (.tmp 22)) rfl ?_); refine wpList_store_row rfl 40 (.tmp 11) (.tmp 22) rfl _ x.o.c rfl rfl 40 _ (hS.at_ 3 rfl) (op_info _ hxs) ((OpV.size (o := zeroO) rfl).trans (OpV.size (o := x.o) hxs).symm) (ot_one HX.out.vc) ?_; intro wn hbn hgn hon hsn; have hS1 := hS.put 3 rfl hon hbn hgn; (try simp only [List.nil_append, List.cons_append, List.set_cons_zero, List.set_cons_succ] at hS1); clear hS hbn hgn hon hsn; have hS := hS1; clear hS1); have x67 := (cell_of_row _ _ 67 _ _ _ (hS.at_ 3 rfl)).trans (OpV.g67 hxs); have x70 := (cell_of_row _ _ 70 _ _ _ (hS.at_ 3 rfl)).trans (OpV.g70 hxs)) | ((with_reducible refine gate_op (op := .load 31 (.tmp 27)) rfl ?_); refine load_part rfl 31 (.tmp 27) rfl _ 68 rfl _ _ (0, 0) _ _ (hS.at_ 3 rfl) (OpV.pObj hxs) Tryz.underlying31 rfl (id_info _ _) ?_) | ((with_reducible refine gate_op (op := .load 31 (.tmp 4)) rfl ?_); refine wpList_load_row' rfl 31 (.tmp 4) rfl _ rfl 31 _ (0, 0) _ (hS.at_ 0 rfl) Tryz.underlying31 rfl (id_info _ _) ?_) | ((with_reducible refine gate_op (op := .load 40 (.tmp 11)) rfl ?_); refine wpList_load_row' rfl 40 (.tmp 11) rfl _ rfl 40 _ (0, 0) _ (hS.at_ 3 rfl) Tryz.underlying40 rfl (op_info _ hxs) ?_) | ((with_reducible refine gate_op (op := .load 40 (.tmp 8)) rfl ?_); refine wpList_load_row' rfl 40 (.tmp 8) rfl _ rfl 40 _ (0, 0) _ (hS.at_ 2 rfl) Tryz.underlying40 rfl (op_info _ hms) ?_) | (go_at_call 64; (with_reducible (refine (rAfter_any x.o m.1.o _).mono ?_)); rintro e wn ⟨rfl, hbn⟩; have hS1 := hS.step hbn; clear hS hbn; have hS := hS1; clear hS1) | ((with_reducible refine gate_op (op := .store 40 (.tmp 8) (.tmp 47)) rfl ?_); refine wpList_store_row rfl 40 (.tmp 8) (.tmp 47) rfl _ x.o.c rfl rfl 40 _ (hS.at_ 2 rfl) (op_info _ hxs) ((OpV.size (o := m.1.o) hms).trans (OpV.size (o := x.o) hxs).symm) (ot_one HX.out.vc) ?_; intro wn hbn hgn hon hsn; have hS1 := hS.put 2 rfl hon hbn hgn; (try simp only [List.nil_append, List.cons_append, List.set_cons_zero, List.set_cons_succ] at hS1); clear hS hbn hgn hon hsn; have hS := hS1; clear hS1))
        go_roundw
        case rel => exact ⟨j + 1, by omega, by first | (rw [HS.out, hN.out]; done) | (rw [HS.out, hN.out, h5]), by go_num, by rw [HS.out, hN.out]; exact hS.drop (n := 3)⟩
        case measure => simp [intOf]; omega
      · cases h2 : (x.o.OR == r)
        · have hN : Hid (wdStep r n key m x = m) := Lib.hid (by unfold wdStep onKey; rw [h1, h2]; rfl)
          go_wp2_with (first | go_skip | ((with_reducible refine gate_op (op := .load 40 (.tmp 21)) rfl ?_); refine load_cells rfl 40 (.tmp 21) rfl _ _ rfl x.o.c _ cX.out Tryz.underlying40 rfl (op_info _ hxs) ?_) | ((with_reducible refine gate_op (op := .alloc 40) rfl ?_); refine alloc_arm rfl 40 rfl (op_alloc _) ?_; intro wn hbn hgn; have hS1 := hS.new hbn hgn; (try simp only [List.nil_append, List.cons_append, List.set_cons_zero, List.set_cons_succ] at hS1); clear hS hbn hgn; have hS := hS1; clear hS1) | (((with_reducible refine gate_op (op := .store 40 (.tmp 11) (.tmp 22)) rfl ?_); refine wpList_store_row rfl 40 (.tmp 11) (.tmp 22) rfl _ x.o.c rfl rfl 40 _ (hS.at_ 3 rfl) (op_info _ hxs) ((OpV.size (o := zeroO) rfl).trans (OpV.size (o := x.o) hxs).symm) (ot_one HX.out.vc) ?_; intro wn hbn hgn hon hsn; have hS1 := hS.put 3 rfl hon hbn hgn; (try simp only [List.nil_append, List.cons_append, List.set_cons_zero, List.set_cons_succ] at hS1); clear hS hbn hgn hon hsn; have hS := hS1; clear hS1); have x67 := (cell_of_row _ _ 67 _ _ _ (hS.at_ 3 rfl)).trans (OpV.g67 hxs); have x70 := (cell_of_row _ _ 70 _ _ _ (hS.at_ 3 rfl)).trans (OpV.g70 hxs)) | ((with_reducible refine gate_op (op := .load 31 (.tmp 27)) rfl ?_); refine load_part rfl 31 (.tmp 27) rfl _ 68 rfl _ _ (0, 0) _ _ (hS.at_ 3 rfl) (OpV.pObj hxs) Tryz.underlying31 rfl (id_info _ _) ?_) | ((with_reducible refine gate_op (op := .load 31 (.tmp 4)) rfl ?_); refine wpList_load_row' rfl 31 (.tmp 4) rfl _ rfl 31 _ (0, 0) _ (hS.at_ 0 rfl) Tryz.underlying31 rfl (id_info _ _) ?_) | ((with_reducible refine gate_op (op := .load 40 (.tmp 11)) rfl ?_); refine wpList_load_row' rfl 40 (.tmp 11) rfl _ rfl 40 _ (0, 0) _ (hS.at_ 3 rfl) Tryz.underlying40 rfl (op_info _ hxs) ?_) | ((with_reducible refine gate_op (op := .load 40 (.tmp 8)) rfl ?_); refine wpList_load_row' rfl 40 (.tmp 8) rfl _ rfl 40 _ (0, 0) _ (hS.at_ 2 rfl) Tryz.underlying40 rfl (op_info _ hms) ?_) | (go_at_call 64; (with_reducible (refine (rAfter_any x.o m.1.o _).mono ?_)); rintro e wn ⟨rfl, hbn⟩; have hS1 := hS.step hbn; clear hS hbn; have hS := hS1; clear hS1) | ((with_reducible refine gate_op (op := .store 40 (.tmp 8) (.tmp 47)) rfl ?_); refine wpList_store_row rfl 40 (.tmp 8) (.tmp 47) rfl _ x.o.c rfl rfl 40 _ (hS.at_ 2 rfl) (op_info _ hxs) ((OpV.size (o := m.1.o) hms).trans (OpV.size (o := x.o) hxs).symm) (ot_one HX.out.vc) ?_; intro wn hbn hgn hon hsn; have hS1 := hS.put 2 rfl hon hbn hgn; (try simp only [List.nil_append, List.cons_append, List.set_cons_zero, List.set_cons_succ] at hS1); clear hS hbn hgn hon hsn; have hS := hS1; clear hS1))
          go_roundw
          case rel => exact ⟨j + 1, by omega, by first | (rw [HS.out, hN.out]; done) | (rw [HS.out, hN.out, h5]), by go_num, by rw [HS.out, hN.out]; exact hS.drop (n := 3)⟩
          case measure => simp [intOf]; omega
        · cases h3 : (x.o.ON == n)
          · have hN : Hid (wdStep r n key m x = m) := Lib.hid (by unfold wdStep onKey; rw [h1, h2, h3]; rfl)
            go_wp2_with (first | go_skip | ((with_reducible refine gate_op (op := .load 40 (.tmp 21)) rfl ?_); refine load_cells rfl 40 (.tmp 21) rfl _ _ rfl x.o.c _ cX.out Tryz.underlying40 rfl (op_info _ hxs) ?_) | ((with_reducible refine gate_op (op := .alloc 40) rfl ?_); refine alloc_arm rfl 40 rfl (op_alloc _) ?_; intro wn hbn hgn; have hS1 := hS.new hbn hgn; (try simp only [List.nil_append, List.cons_append, List.set_cons_zero, List.set_cons_succ] at hS1); clear hS hbn hgn; have hS := hS1; clear hS1) | (((with_reducible refine gate_op (op := .store 40 (.tmp 11) (.tmp 22)) rfl ?_); refine wpList_store_row rfl 40 (.tmp 11) (.tmp 22) rfl _ x.o.c rfl rfl 40 _ (hS.at_ 3 rfl) (op_info _ hxs) ((OpV.size (o := zeroO) rfl).trans (OpV.size (o := x.o) hxs).symm) (ot_one HX.out.vc) ?_; intro wn hbn hgn hon hsn; have hS1 := hS.put 3 rfl hon hbn hgn; (try simp only [List.nil_append, List.cons_append, List.set_cons_zero, List.set_cons_succ] at hS1); clear hS hbn hgn hon hsn; have hS := hS1; clear hS1); have x67 := (cell_of_row _ _ 67 _ _ _ (hS.at_ 3 rfl)).trans (OpV.g67 hxs); have x70 := (cell_of_row _ _ 70 _ _ _ (hS.at_ 3 rfl)).trans (OpV.g70 hxs)) | ((with_reducible refine gate_op (op := .load 31 (.tmp 27)) rfl ?_); refine load_part rfl 31 (.tmp 27) rfl _ 68 rfl _ _ (0, 0) _ _ (hS.at_ 3 rfl) (OpV.pObj hxs) Tryz.underlying31 rfl (id_info _ _) ?_) | ((with_reducible refine gate_op (op := .load 31 (.tmp 4)) rfl ?_); refine wpList_load_row' rfl 31 (.tmp 4) rfl _ rfl 31 _ (0, 0) _ (hS.at_ 0 rfl) Tryz.underlying31 rfl (id_info _ _) ?_) | ((with_reducible refine gate_op (op := .load 40 (.tmp 11)) rfl ?_); refine wpList_load_row' rfl 40 (.tmp 11) rfl _ rfl 40 _ (0, 0) _ (hS.at_ 3 rfl) Tryz.underlying40 rfl (op_info _ hxs) ?_) | ((with_reducible refine gate_op (op := .load 40 (.tmp 8)) rfl ?_); refine wpList_load_row' rfl 40 (.tmp 8) rfl _ rfl 40 _ (0, 0) _ (hS.at_ 2 rfl) Tryz.underlying40 rfl (op_info _ hms) ?_) | (go_at_call 64; (with_reducible (refine (rAfter_any x.o m.1.o _).mono ?_)); rintro e wn ⟨rfl, hbn⟩; have hS1 := hS.step hbn; clear hS hbn; have hS := hS1; clear hS1) | ((with_reducible refine gate_op (op := .store 40 (.tmp 8) (.tmp 47)) rfl ?_); refine wpList_store_row rfl 40 (.tmp 8) (.tmp 47) rfl _ x.o.c rfl rfl 40 _ (hS.at_ 2 rfl) (op_info _ hxs) ((OpV.size (o := m.1.o) hms).trans (OpV.size (o := x.o) hxs).symm) (ot_one HX.out.vc) ?_; intro wn hbn hgn hon hsn; have hS1 := hS.put 2 rfl hon hbn hgn; (try simp only [List.nil_append, List.cons_append, List.set_cons_zero, List.set_cons_succ] at hS1); clear hS hbn hgn hon hsn; have hS := hS1; clear hS1))
            go_roundw
            case rel => exact ⟨j + 1, by omega, by first | (rw [HS.out, hN.out]; done) | (rw [HS.out, hN.out, h5]), by go_num, by rw [HS.out, hN.out]; exact hS.drop (n := 3)⟩
            case measure => simp [intOf]; omega
          · cases h4 : (x.o.key.toList == key.toList)
            · have hN : Hid (wdStep r n key m x = m) := Lib.hid (by unfold wdStep onKey; rw [h1, h2, h3, h4]; rfl)
              go_wp2_with (first | go_skip | ((with_reducible refine gate_op (op := .load 40 (.tmp 21)) rfl ?_); refine load_cells rfl 40 (.tmp 21) rfl _ _ rfl x.o.c _ cX.out Tryz.underlying40 rfl (op_info _ hxs) ?_) | ((with_reducible refine gate_op (op := .alloc 40) rfl ?_); refine alloc_arm rfl 40 rfl (op_alloc _) ?_; intro wn hbn hgn; have hS1 := hS.new hbn hgn; (try simp only [List.nil_append, List.cons_append, List.set_cons_zero, List.set_cons_succ] at hS1); clear hS hbn hgn; have hS := hS1; clear hS1) | (((with_reducible refine gate_op (op := .store 40 (.tmp 11) (.tmp 22)) rfl ?_); refine wpList_store_row rfl 40 (.tmp 11) (.tmp 22) rfl _ x.o.c rfl rfl 40 _ (hS.at_ 3 rfl) (op_info _ hxs) ((OpV.size (o := zeroO) rfl).trans (OpV.size (o := x.o) hxs).symm) (ot_one HX.out.vc) ?_; intro wn hbn hgn hon hsn; have hS1 := hS.put 3 rfl hon hbn hgn; (try simp only [List.nil_append, List.cons_append, List.set_cons_zero, List.set_cons_succ] at hS1); clear hS hbn hgn hon hsn; have hS := hS1; clear hS1); have x67 := (cell_of_row _ _ 67 _ _ _ (hS.at_ 3 rfl)).trans (OpV.g67 hxs); have x70 := (cell_of_row _ _ 70 _ _ _ (hS.at_ 3 rfl)).trans (OpV.g70 hxs)) | ((with_reducible refine gate_op (op := .load 31 (.tmp 27)) rfl ?_); refine load_part rfl 31 (.tmp 27) rfl _ 68 rfl _ _ (0, 0) _ _ (hS.at_ 3 rfl) (OpV.pObj hxs) Tryz.underlying31 rfl (id_info _ _) ?_) | ((with_reducible refine gate_op (op := .load 31 (.tmp 4)) rfl ?_); refine wpList_load_row' rfl 31 (.tmp 4) rfl _ rfl 31 _ (0, 0) _ (hS.at_ 0 rfl) Tryz.underlying31 rfl (id_info _ _) ?_) | ((with_reducible refine gate_op (op := .load 40 (.tmp 11)) rfl ?_); refine wpList_load_row' rfl 40 (.tmp 11) rfl _ rfl 40 _ (0, 0) _ (hS.at_ 3 rfl) Tryz.underlying40 rfl (op_info _ hxs) ?_) | ((with_reducible refine gate_op (op := .load 40 (.tmp 8)) rfl ?_); refine wpList_load_row' rfl 40 (.tmp 8) rfl _ rfl 40 _ (0, 0) _ (hS.at_ 2 rfl) Tryz.underlying40 rfl (op_info _ hms) ?_) | (go_at_call 64; (with_reducible (refine (rAfter_any x.o m.1.o _).mono ?_)); rintro e wn ⟨rfl, hbn⟩; have hS1 := hS.step hbn; clear hS hbn; have hS := hS1; clear hS1) | ((with_reducible refine gate_op (op := .store 40 (.tmp 8) (.tmp 47)) rfl ?_); refine wpList_store_row rfl 40 (.tmp 8) (.tmp 47) rfl _ x.o.c rfl rfl 40 _ (hS.at_ 2 rfl) (op_info _ hxs) ((OpV.size (o := m.1.o) hms).trans (OpV.size (o := x.o) hxs).symm) (ot_one HX.out.vc) ?_; intro wn hbn hgn hon hsn; have hS1 := hS.put 2 rfl hon hbn hgn; (try simp only [List.nil_append, List.cons_append, List.set_cons_zero, List.set_cons_succ] at hS1); clear hS hbn hgn hon hsn; have hS := hS1; clear hS1))
              go_roundw
              case rel => exact ⟨j + 1, by omega, by first | (rw [HS.out, hN.out]; done) | (rw [HS.out, hN.out, h5]), by go_num, by rw [HS.out, hN.out]; exact hS.drop (n := 3)⟩
              case measure => simp [intOf]; omega
            · cases h5 : m.2
              · have hN : Hid (wdStep r n key m x = (x, true)) := Lib.hid (by unfold wdStep onKey; rw [h1, h2, h3, h4, h5]; rfl)
                go_wp2_with (first | go_skip | ((with_reducible refine gate_op (op := .load 40 (.tmp 21)) rfl ?_); refine load_cells rfl 40 (.tmp 21) rfl _ _ rfl x.o.c _ cX.out Tryz.underlying40 rfl (op_info _ hxs) ?_) | ((with_reducible refine gate_op (op := .alloc 40) rfl ?_); refine alloc_arm rfl 40 rfl (op_alloc _) ?_; intro wn hbn hgn; have hS1 := hS.new hbn hgn; (try simp only [List.nil_append, List.cons_append, List.set_cons_zero, List.set_cons_succ] at hS1); clear hS hbn hgn; have hS := hS1; clear hS1) | (((with_reducible refine gate_op (op := .store 40 (.tmp 11) (.tmp 22)) rfl ?_); refine wpList_store_row rfl 40 (.tmp 11) (.tmp 22) rfl _ x.o.c rfl rfl 40 _ (hS.at_ 3 rfl) (op_info _ hxs) ((OpV.size (o := zeroO) rfl).trans (OpV.size (o := x.o) hxs).symm) (ot_one HX.out.vc) ?_; intro wn hbn hgn hon hsn; have hS1 := hS.put 3 rfl hon hbn hgn; (try simp only [List.nil_append, List.cons_append, List.set_cons_zero, List.set_cons_succ] at hS1); clear hS hbn hgn hon hsn; have hS := hS1; clear hS1); have x67 := (cell_of_row _ _ 67 _ _ _ (hS.at_ 3 rfl)).trans (OpV.g67 hxs); have x70 := (cell_of_row _ _ 70 _ _ _ (hS.at_ 3 rfl)).trans (OpV.g70 hxs)) | ((with_reducible refine gate_op (op := .load 31 (.tmp 27)) rfl ?_); refine load_part rfl 31 (.tmp 27) rfl _ 68 rfl _ _ (0, 0) _ _ (hS.at_ 3 rfl) (OpV.pObj hxs) Tryz.underlying31 rfl (id_info _ _) ?_) | ((with_reducible refine gate_op (op := .load 31 (.tmp 4)) rfl ?_); refine wpList_load_row' rfl 31 (.tmp 4) rfl _ rfl 31 _ (0, 0) _ (hS.at_ 0 rfl) Tryz.underlying31 rfl (id_info _ _) ?_) | ((with_reducible refine gate_op (op := .load 40 (.tmp 11)) rfl ?_); refine wpList_load_row' rfl 40 (.tmp 11) rfl _ rfl 40 _ (0, 0) _ (hS.at_ 3 rfl) Tryz.underlying40 rfl (op_info _ hxs) ?_) | ((with_reducible refine gate_op (op := .load 40 (.tmp 8)) rfl ?_); refine wpList_load_row' rfl 40 (.tmp 8) rfl _ rfl 40 _ (0, 0) _ (hS.at_ 2 rfl) Tryz.underlying40 rfl (op_info _ hms) ?_) | (go_at_call 64; (with_reducible (refine (rAfter_any x.o m.1.o _).mono ?_)); rintro e wn ⟨rfl, hbn⟩; have hS1 := hS.step hbn; clear hS hbn; have hS := hS1; clear hS1) | ((with_reducible refine gate_op (op := .store 40 (.tmp 8) (.tmp 47)) rfl ?_); refine wpList_store_row rfl 40 (.tmp 8) (.tmp 47) rfl _ x.o.c rfl rfl 40 _ (hS.at_ 2 rfl) (op_info _ hxs) ((OpV.size (o := m.1.o) hms).trans (OpV.size (o := x.o) hxs).symm) (ot_one HX.out.vc) ?_; intro wn hbn hgn hon hsn; have hS1 := hS.put 2 rfl hon hbn hgn; (try simp only [List.nil_append, List.cons_append, List.set_cons_zero, List.set_cons_succ] at hS1); clear hS hbn hgn hon hsn; have hS := hS1; clear hS1))
                go_roundw
                case rel => exact ⟨j + 1, by omega, by first | (rw [HS.out, hN.out]; done) | (rw [HS.out, hN.out, h5]), by go_num, by rw [HS.out, hN.out]; exact hS.drop (n := 3)⟩
                case measure => simp [intOf]; omega
              · cases h6 : afterB x.o m.1.o
                · have hN : Hid (wdStep r n key m x = m) := Lib.hid (by unfold wdStep onKey; rw [h1, h2, h3, h4, h5, h6]; rfl)
                  go_wp2_with (first | go_skip | ((with_reducible refine gate_op (op := .load 40 (.tmp 21)) rfl ?_); refine load_cells rfl 40 (.tmp 21) rfl _ _ rfl x.o.c _ cX.out Tryz.underlying40 rfl (op_info _ hxs) ?_) | ((with_reducible refine gate_op (op := .alloc 40) rfl ?_); refine alloc_arm rfl 40 rfl (op_alloc _) ?_; intro wn hbn hgn; have hS1 := hS.new hbn hgn; (try simp only [List.nil_append, List.cons_append, List.set_cons_zero, List.set_cons_succ] at hS1); clear hS hbn hgn; have hS := hS1; clear hS1) | (((with_reducible refine gate_op (op := .store 40 (.tmp 11) (.tmp 22)) rfl ?_); refine wpList_store_row rfl 40 (.tmp 11) (.tmp 22) rfl _ x.o.c rfl rfl 40 _ (hS.at_ 3 rfl) (op_info _ hxs) ((OpV.size (o := zeroO) rfl).trans (OpV.size (o := x.o) hxs).symm) (ot_one HX.out.vc) ?_; intro wn hbn hgn hon hsn; have hS1 := hS.put 3 rfl hon hbn hgn; (try simp only [List.nil_append, List.cons_append, List.set_cons_zero, List.set_cons_succ] at hS1); clear hS hbn hgn hon hsn; have hS := hS1; clear hS1); have x67 := (cell_of_row _ _ 67 _ _ _ (hS.at_ 3 rfl)).trans (OpV.g67 hxs); have x70 := (cell_of_row _ _ 70 _ _ _ (hS.at_ 3 rfl)).trans (OpV.g70 hxs)) | ((with_reducible refine gate_op (op := .load 31 (.tmp 27)) rfl ?_); refine load_part rfl 31 (.tmp 27) rfl _ 68 rfl _ _ (0, 0) _ _ (hS.at_ 3 rfl) (OpV.pObj hxs) Tryz.underlying31 rfl (id_info _ _) ?_) | ((with_reducible refine gate_op (op := .load 31 (.tmp 4)) rfl ?_); refine wpList_load_row' rfl 31 (.tmp 4) rfl _ rfl 31 _ (0, 0) _ (hS.at_ 0 rfl) Tryz.underlying31 rfl (id_info _ _) ?_) | ((with_reducible refine gate_op (op := .load 40 (.tmp 11)) rfl ?_); refine wpList_load_row' rfl 40 (.tmp 11) rfl _ rfl 40 _ (0, 0) _ (hS.at_ 3 rfl) Tryz.underlying40 rfl (op_info _ hxs) ?_) | ((with_reducible refine gate_op (op := .load 40 (.tmp 8)) rfl ?_); refine wpList_load_row' rfl 40 (.tmp 8) rfl _ rfl 40 _ (0, 0) _ (hS.at_ 2 rfl) Tryz.underlying40 rfl (op_info _ hms) ?_) | (go_at_call 64; (with_reducible (refine (rAfter_any x.o m.1.o _).mono ?_)); rintro e wn ⟨rfl, hbn⟩; have hS1 := hS.step hbn; clear hS hbn; have hS := hS1; clear hS1) | ((with_reducible refine gate_op (op := .store 40 (.tmp 8) (.tmp 47)) rfl ?_); refine wpList_store_row rfl 40 (.tmp 8) (.tmp 47) rfl _ x.o.c rfl rfl 40 _ (hS.at_ 2 rfl) (op_info _ hxs) ((OpV.size (o := m.1.o) hms).trans (OpV.size (o := x.o) hxs).symm) (ot_one HX.out.vc) ?_; intro wn hbn hgn hon hsn; have hS1 := hS.put 2 rfl hon hbn hgn; (try simp only [List.nil_append, List.cons_append, List.set_cons_zero, List.set_cons_succ] at hS1); clear hS hbn hgn hon hsn; have hS := hS1; clear hS1))
                  go_roundw
                  case rel => exact ⟨j + 1, by omega, by first | (rw [HS.out, hN.out]; done) | (rw [HS.out, hN.out, h5]), by go_num, by rw [HS.out, hN.out]; exact hS.drop (n := 3)⟩
                  case measure => simp [intOf]; omega
                · have hN : Hid (wdStep r n key m x = (x, true)) := Lib.hid (by unfold wdStep onKey; rw [h1, h2, h3, h4, h5, h6]; rfl)
                  go_wp2_with (first | go_skip | ((with_reducible refine gate_op (op := .load 40 (.tmp 21)) rfl ?_); refine load_cells rfl 40 (.tmp 21) rfl _ _ rfl x.o.c _ cX.out Tryz.underlying40 rfl (op_info _ hxs) ?_) | ((with_reducible refine gate_op (op := .alloc 40) rfl ?_); refine alloc_arm rfl 40 rfl (op_alloc _) ?_; intro wn hbn hgn; have hS1 := hS.new hbn hgn; (try simp only [List.nil_append, List.cons_append, List.set_cons_zero, List.set_cons_succ] at hS1); clear hS hbn hgn; have hS := hS1; clear hS1) | (((with_reducible refine gate_op (op := .store 40 (.tmp 11) (.tmp 22)) rfl ?_); refine wpList_store_row rfl 40 (.tmp 11) (.tmp 22) rfl _ x.o.c rfl rfl 40 _ (hS.at_ 3 rfl) (op_info _ hxs) ((OpV.size (o := zeroO) rfl).trans (OpV.size (o := x.o) hxs).symm) (ot_one HX.out.vc) ?_; intro wn hbn hgn hon hsn; have hS1 := hS.put 3 rfl hon hbn hgn; (try simp only [List.nil_append, List.cons_append, List.set_cons_zero, List.set_cons_succ] at hS1); clear hS hbn hgn hon hsn; have hS := hS1; clear hS1); have x67 := (cell_of_row _ _ 67 _ _ _ (hS.at_ 3 rfl)).trans (OpV.g67 hxs); have x70 := (cell_of_row _ _ 70 _ _ _ (hS.at_ 3 rfl)).trans (OpV.g70 hxs)) | ((with_reducible refine gate_op (op := .load 31 (.tmp 27)) rfl ?_); refine load_part rfl 31 (.tmp 27) rfl _ 68 rfl _ _ (0, 0) _ _ (hS.at_ 3 rfl) (OpV.pObj hxs) Tryz.underlying31 rfl (id_info _ _) ?_) | ((with_reducible refine gate_op (op := .load 31 (.tmp 4)) rfl ?_); refine wpList_load_row' rfl 31 (.tmp 4) rfl _ rfl 31 _ (0, 0) _ (hS.at_ 0 rfl) Tryz.underlying31 rfl (id_info _ _) ?_) | ((with_reducible refine gate_op (op := .load 40 (.tmp 11)) rfl ?_); refine wpList_load_row' rfl 40 (.tmp 11) rfl _ rfl 40 _ (0, 0) _ (hS.at_ 3 rfl) Tryz.underlying40 rfl (op_info _ hxs) ?_) | ((with_reducible refine gate_op (op := .load 40 (.tmp 8)) rfl ?_); refine wpList_load_row' rfl 40 (.tmp 8) rfl _ rfl 40 _ (0, 0) _ (hS.at_ 2 rfl) Tryz.underlying40 rfl (op_info _ hms) ?_) | (go_at_call 64; (with_reducible (refine (rAfter_any x.o m.1.o _).mono ?_)); rintro e wn ⟨rfl, hbn⟩; have hS1 := hS.step hbn; clear hS hbn; have hS := hS1; clear hS1) | ((with_reducible refine gate_op (op := .store 40 (.tmp 8) (.tmp 47)) rfl ?_); refine wpList_store_row rfl 40 (.tmp 8) (.tmp 47) rfl _ x.o.c rfl rfl 40 _ (hS.at_ 2 rfl) (op_info _ hxs) ((OpV.size (o := m.1.o) hms).trans (OpV.size (o := x.o) hxs).symm) (ot_one HX.out.vc) ?_; intro wn hbn hgn hon hsn; have hS1 := hS.put 2 rfl hon hbn hgn; (try simp only [List.nil_append, List.cons_append, List.set_cons_zero, List.set_cons_succ] at hS1); clear hS hbn hgn hon hsn; have hS := hS1; clear hS1))
                  go_roundw
                  case rel => exact ⟨j + 1, by omega, by first | (rw [HS.out, hN.out]; done) | (rw [HS.out, hN.out, h5]), by go_num, by rw [HS.out, hN.out]; exact hS.drop (n := 3)⟩
                  case measure => simp [intOf]; omega
    · have hge : decide ((j : Int) < L.length) = false := by simp; omega
      obtain rfl : j = L.length := by omega
      rw [List.take_length] at hS ⊢
      have HM := Lib.hid (wdFold_ok r n key L HL.out.ok)
      have hms := HM.out.seen
      generalize hm : wdFold r n key L = m at *
      have HMM := Lib.hid hm
      clear HL hm
      cases h5 : m.2
      · go_upto_region 8 with go_skip
        have q67 := cell_turned (b := w.heap.size + 1) (show wr.cell? ⟨w1.heap.size, 67, none⟩ = some (.int .i64 m.1.o.K) from (cell_of_row _ _ 67 _ _ _ (hS.at_ 2 rfl)).trans (OpV.g67 hms)) (hS.apart 2 1 _ _ rfl rfl (by decide))
        have r2 := obj_turned (hS.at_ 2 rfl) (hS.apart 2 1 _ _ rfl rfl (by decide))
        refine wp_region_put wd8 (by kernel_rfl) 7 (by kernel_rfl) (by kernel_rfl) (by kernel_rfl) (by decide) (by kernel_rfl) (by kernel_rfl) 40 6 48 (by kernel_rfl) (w.heap.size + 1) zeroO.c (hS.at_ 1 rfl) (op_info zeroO rfl) ?_
        simp only [List.take_succ_cons, List.take_zero]
        repeat (first | go_big_quiet_skip | (refine BigFrame.wpQuiet_want rfl (fun K hK => ?_); refine quiet_load_row 40 (.tmp 8) rfl _ rfl 40 _ (0, 0) _ r2 Tryz.underlying40 rfl (op_info _ hms) ?_; refine hK _ ?_; clear hK K) | (quiet_step (fail)))
        refine wpQuiet_nil ?_
        refine ⟨m.1.o.c, rfl, rfl, (OpV.size (o := zeroO) rfl).trans (OpV.size (o := m.1.o) hms).symm, ot_one HM.out.vc, ?_⟩
        intro wz hbz hrz
        have hS2 := hS.turn 1 rfl hbz hrz
        simp only [List.drop_succ_cons, List.drop_zero, List.set_cons_zero, List.set_cons_succ] at hS2 ⊢
        clear hS q67 r2 hbz hrz
        go_wp2_with go_skip
        exact bodyPost_ret (v := .tuple #[opv m.1.o, .bool false]) (results_row_tmp rfl _ _ _ _ _ _ _ _ rfl rfl (hS2.at_ 1 rfl) Tryz.underlying40 rfl (op_info _ hms)) rfl ⟨by rw [HMM.out, h5]; rfl, hS2.below⟩
      · go_upto_region 8 with go_skip
        have q67 := cell_turned (b := w.heap.size + 1) (show wr.cell? ⟨w1.heap.size, 67, none⟩ = some (.int .i64 m.1.o.K) from (cell_of_row _ _ 67 _ _ _ (hS.at_ 2 rfl)).trans (OpV.g67 hms)) (hS.apart 2 1 _ _ rfl rfl (by decide))
        have r2 := obj_turned (hS.at_ 2 rfl) (hS.apart 2 1 _ _ rfl rfl (by decide))
        refine wp_region_put wd8 (by kernel_rfl) 7 (by kernel_rfl) (by kernel_rfl) (by kernel_rfl) (by decide) (by kernel_rfl) (by kernel_rfl) 40 6 48 (by kernel_rfl) (w.heap.size + 1) zeroO.c (hS.at_ 1 rfl) (op_info zeroO rfl) ?_
        simp only [List.take_succ_cons, List.take_zero]
        repeat (first | go_big_quiet_skip | (refine BigFrame.wpQuiet_want rfl (fun K hK => ?_); refine quiet_load_row 40 (.tmp 8) rfl _ rfl 40 _ (0, 0) _ r2 Tryz.underlying40 rfl (op_info _ hms) ?_; refine hK _ ?_; clear hK K) | (quiet_step (fail)))
        refine wpQuiet_nil ?_
        refine ⟨m.1.o.c, rfl, rfl, (OpV.size (o := zeroO) rfl).trans (OpV.size (o := m.1.o) hms).symm, ot_one HM.out.vc, ?_⟩
        intro wz hbz hrz
        have hS2 := hS.turn 1 rfl hbz hrz
        simp only [List.drop_succ_cons, List.drop_zero, List.set_cons_zero, List.set_cons_succ] at hS2 ⊢
        clear hS q67 r2 hbz hrz
        go_wp2_with go_skip
        exact bodyPost_ret (v := .tuple #[opv m.1.o, .bool (m.1.o.K == 1)]) (results_row_tmp rfl _ _ _ _ _ _ _ _ rfl rfl (hS2.at_ 1 rfl) Tryz.underlying40 rfl (op_info _ hms)) rfl ⟨by rw [HMM.out, h5]; rfl, hS2.below⟩
end
end Go.Proofs.YtffcpmohanhihaaGreatDoor
