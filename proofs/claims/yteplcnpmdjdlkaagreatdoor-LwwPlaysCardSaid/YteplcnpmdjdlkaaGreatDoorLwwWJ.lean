/-
  Law 22's awake, walked: true. Condition: the library's variables as it lays them.
-/
import Derived.Test.YteplcnpmdjdlkaaGreatDoorJ19
import Derived.Test.YteplcnpmdjdlkaaGreatDoorJ20
namespace Go.Proofs.YteplcnpmdjdlkaaGreatDoor
open Go.RowKit Go.Sort
set_option linter.unusedVariables false
set_option linter.unusedSimpArgs false
theorem word_mk (R T : Int) (k : ByteArray) (f : Bool) (n : Int) (W : World) : (Instr.build 39 #[(0, .int .i64 R), (1, .int .i64 T), (2, .string k), (3, .bool f), (4, .int .i64 n)]).run Tryz.prog W = .ok (.agg (WordV.c ⟨R, T, k, f, n⟩)) W := by kernel_rfl
def kA : ByteArray := ⟨#[97]⟩
def wA : WordV := ⟨1, 2, kA, false, 7⟩
def wB : WordV := ⟨1, 1, kA, true, 0⟩
def wC : WordV := ⟨1, 3, kA, true, 0⟩
theorem wA_ok : wA.Ok := ⟨⟨by decide, by decide⟩, ⟨by decide, by decide⟩, ⟨by decide, by decide⟩, by show (1 : Nat) ≤ _; decide⟩
theorem wB_ok : wB.Ok := ⟨⟨by decide, by decide⟩, ⟨by decide, by decide⟩, ⟨by decide, by decide⟩, by show (1 : Nat) ≤ _; decide⟩
theorem wC_ok : wC.Ok := ⟨⟨by decide, by decide⟩, ⟨by decide, by decide⟩, ⟨by decide, by decide⟩, by show (1 : Nat) ≤ _; decide⟩
theorem wA_good : wA.op.good = true := by kernel_rfl
theorem wB_good : wB.op.good = true := by kernel_rfl
theorem wC_good : wC.op.good = true := by kernel_rfl
/-- The map behind the first word. -/
theorem app_one {x : OT} {l2 : Wd} {r : Bool} (h : Applied x [] r l2) (ha : accB x [] = true) : r = true ∧ ∃ y, OT.Ok y ∧ OT.Same x y ∧ l2 = [(x.o.key, y)] := by
  obtain ⟨h1, h2⟩ := h
  rw [ha] at h1 h2
  obtain ⟨y, hy, hs, rfl⟩ := h2
  exact ⟨h1, y, hy, hs, rfl⟩
theorem app_old {x y : OT} {l2 : Wd} {r : Bool} (h : Applied x [(x.o.key, y)] r l2) (hf : afterB x.o y.o = false) : r = false ∧ l2 = [(x.o.key, y)] := by
  obtain ⟨h1, h2⟩ := h
  have ha : accB x [(x.o.key, y)] = false := by unfold accB; simp [assoc, hf]
  rw [ha] at h1 h2
  exact ⟨h1, h2⟩
theorem app_over {x y : OT} {l2 : Wd} {r : Bool} (h : Applied x [(x.o.key, y)] r l2) (hk : (x.o.K == 1 || x.o.K == 2) = true) (hg : x.good = true) (hf : afterB x.o y.o = true) : r = true ∧ ∃ z, OT.Ok z ∧ OT.Same x z ∧ l2 = [(x.o.key, z)] := by
  obtain ⟨h1, h2⟩ := h
  have ha : accB x [(x.o.key, y)] = true := by unfold accB; simp [assoc, hf, hg]; simpa using hk
  rw [ha] at h1 h2
  obtain ⟨z, hz, hs, rfl⟩ := h2
  exact ⟨h1, z, hz, hs, by simp [assocPut]⟩
theorem vn_of {x : OT} (h : OT.Ok x) : x.o.VN = x.t.n := by
  have h1 := congrArg (fun a => a[1]?) h.vc
  simp [OpV.vc, VT.c] at h1
  exact h1
theorem same_vn {x y : OT} (hx : OT.Ok x) (hy : OT.Ok y) (h : OT.Same x y) : y.o.VN = x.o.VN := by
  rw [vn_of hx, vn_of hy]
  exact ((sameV_parts h.V).2.1).symm
theorem keysW_one (k : ByteArray) (y : OT) : keysW [(k, y)] = if y.o.K == 1 then [k.data.toList] else [] := by
  unfold keysW sortK
  simp only [List.map_cons, List.map_nil, List.mergeSort_singleton]
  have h : onK [(k, y)] k.data.toList = (y.o.K == 1) := by unfold onK; rw [kb_data]; simp [assoc]
  cases hq : (y.o.K == 1) <;> simp [List.filter, h, hq]
theorem accA : accB wA.op [] = true := by kernel_rfl
theorem one_ok {k : ByteArray} {y : OT} (hk : KSz k) (hy : OT.Ok y) : WdOk [(k, y)] := WdOk.nil.put hk hy
theorem kA_sz : KSz kA := by show (1 : Nat) ≤ _; decide
/-- What is known of the map behind two words. -/
structure Aw (y : OT) : Prop where
  ok : OT.Ok y
  same : OT.Same wA.op y
theorem Aw.k {y : OT} (h : Aw y) : (y.o.K == 1) = true := by rw [← h.same.K]; rfl
theorem Aw.kn {y : OT} (h : Aw y) : (y.o.K != 1) = false := by rw [bne, h.k]; rfl
theorem Aw.old {y : OT} (h : Aw y) : afterB wB.op.o y.o = false := by unfold afterB; rw [← h.same.T, ← h.same.R]; decide
theorem Aw.over {y : OT} (h : Aw y) : afterB wC.op.o y.o = true := by unfold afterB; rw [← h.same.T, ← h.same.R]; decide
theorem Aw.keys {y : OT} (h : Aw y) : keysW [(kA, y)] = [[97]] := by rw [keysW_one, h.k]; rfl
def lA (y : OT) : Wd := [(kA, y)]
theorem apply_A (p b : Nat) (w : World) (hw : Vars w) (hp : w.heap[p]? = some (headO b)) (hb : w.heap[b]? = some (wordsO [])) :
    Calls Tryz.prog 9 #[.pointer (some ⟨p, 0, none⟩), opv wA.op.o] w fun e w' => ∃ y, e = .returned (.bool true) ∧ Aw y ∧ w'.heap[b]? = some (wordsO (lA y)) ∧ But b w w' :=
  (lApply_any wA.op [] p b w hw ((WordV.op_ok wA_ok).opin _) WdOk.nil hp hb).mono fun e w' ⟨r, l2, he, ha, hm, hbut⟩ => by
    obtain ⟨rfl, y, hy, hs, rfl⟩ := app_one ha accA
    exact ⟨y, he, ⟨hy, hs⟩, hm, hbut⟩
theorem apply_B (y : OT) (p b : Nat) (w : World) (hy : Aw y) (hw : Vars w) (hp : w.heap[p]? = some (headO b)) (hb : w.heap[b]? = some (wordsO (lA y))) :
    Calls Tryz.prog 9 #[.pointer (some ⟨p, 0, none⟩), opv wB.op.o] w fun e w' => e = .returned (.bool false) ∧ w'.heap[b]? = some (wordsO (lA y)) ∧ But b w w' :=
  (lApply_any wB.op (lA y) p b w hw ((WordV.op_ok wB_ok).opin _) (one_ok kA_sz hy.ok) hp hb).mono fun e w' ⟨r, l2, he, ha, hm, hbut⟩ => by
    obtain ⟨rfl, rfl⟩ := app_old (x := wB.op) ha hy.old
    exact ⟨he, hm, hbut⟩
theorem apply_C (y : OT) (p b : Nat) (w : World) (hy : Aw y) (hw : Vars w) (hp : w.heap[p]? = some (headO b)) (hb : w.heap[b]? = some (wordsO (lA y))) :
    Calls Tryz.prog 9 #[.pointer (some ⟨p, 0, none⟩), opv wC.op.o] w fun e w' => ∃ z, e = .returned (.bool true) ∧ OT.Ok z ∧ (z.o.K == 1) = false ∧ w'.heap[b]? = some (wordsO (lA z)) ∧ But b w w' :=
  (lApply_any wC.op (lA y) p b w hw ((WordV.op_ok wC_ok).opin _) (one_ok kA_sz hy.ok) hp hb).mono fun e w' ⟨r, l2, he, ha, hm, hbut⟩ => by
    obtain ⟨rfl, z, hz, hs, rfl⟩ := app_over (x := wC.op) ha rfl wC_good hy.over
    exact ⟨z, he, hz, by rw [← hs.K]; rfl, hm, hbut⟩
theorem get_A (y : OT) (p b : Nat) (w : World) (hy : Aw y) (hp : w.heap[p]? = some (headO b)) (hb : w.heap[b]? = some (wordsO (lA y))) :
    Calls Tryz.prog 11 #[.pointer (some ⟨p, 0, none⟩), .string kA] w fun e w' => ∃ z : OT, e = .returned (.tuple #[opv z.o, .bool true]) ∧ OT.Ok z ∧ z.o.VN = 7 ∧ Below w.heap.size w w' :=
  (get_on (lA y) kA p b w kA_sz (one_ok kA_sz hy.ok) hp hb y (by simp [lA, assoc]) hy.kn).mono fun e w' ⟨z, he, hz, hs, hbel⟩ => ⟨z, he, hz, by rw [same_vn hy.ok hz hs, same_vn (WordV.op_ok wA_ok) hy.ok hy.same]; rfl, hbel⟩
theorem len_A (y : OT) (p b : Nat) (w : World) (hy : Aw y) (hp : w.heap[p]? = some (headO b)) (hb : w.heap[b]? = some (wordsO (lA y))) :
    Calls Tryz.prog 12 #[.pointer (some ⟨p, 0, none⟩)] w fun e w' => e = .returned (.int .i64 1) ∧ Below w.heap.size w w' := by
  have h := lLen_any (lA y) p b w (one_ok kA_sz hy.ok) (by show (1 : Nat) ≤ _; decide) hp hb
  unfold lA at h
  rw [hy.keys] at h
  exact h
theorem len_C (z : OT) (p b : Nat) (w : World) (hz : OT.Ok z) (hk : (z.o.K == 1) = false) (hp : w.heap[p]? = some (headO b)) (hb : w.heap[b]? = some (wordsO (lA z))) :
    Calls Tryz.prog 12 #[.pointer (some ⟨p, 0, none⟩)] w fun e w' => e = .returned (.int .i64 0) ∧ Below w.heap.size w w' := by
  have h := lLen_any (lA z) p b w (one_ok kA_sz hz) (by show (1 : Nat) ≤ _; decide) hp hb
  unfold lA at h
  rw [keysW_one, hk] at h
  exact h
theorem keys_A (y : OT) (p b : Nat) (w : World) (hy : Aw y) (hp : w.heap[p]? = some (headO b)) (hb : w.heap[b]? = some (wordsO (lA y))) :
    Calls Tryz.prog 13 #[.pointer (some ⟨p, 0, none⟩)] w fun e w' => ∃ A g c, e = .returned (.slice A 1 c) ∧ SIn w' A g [[97]] ∧ Below w.heap.size w w' :=
  (lKeys_any (lA y) p b w (one_ok kA_sz hy.ok) (by show (1 : Nat) ≤ _; decide) hp hb).mono fun e w' ⟨v, he, hrow, hbel⟩ => by
    unfold lA at hrow
    rw [hy.keys] at hrow
    obtain ⟨A, g, c, rfl, hs⟩ := sin_of_row hrow rfl
    exact ⟨A, g, c, he, hs, hbel⟩
theorem sin_one (w : World) (k : List UInt8) (e : TypeId) : SIn (w.alloc (.cells #[.string (kb k)] e)) (some ⟨w.heap.size, 0, none⟩) w.heap.size [k] :=
  ⟨fun _ => ⟨rfl, by simp⟩, fun j s hs => by
    match j, hs with
    | 0, hs =>
      obtain rfl := Option.some.inj hs
      rw [cell_of_row _ _ 0 _ _ _ (heap_alloc_new w _)]
      rfl⟩
set_option maxRecDepth 100000 in
set_option maxHeartbeats 2000000 in
theorem awake22_any (w : World) (hw : Vars w) : Calls Tryz.prog 7 #[] w fun e w' => e = .returned (.bool true) ∧ Below w.heap.size w w' := by
  have HV := Lib.hid hw
  have b1 := Lib.hid (fun W => word_mk 1 2 kA false 7 W)
  have b2 := Lib.hid (fun W => word_mk 1 1 kA true 0 W)
  have b3 := Lib.hid (fun W => word_mk 1 3 kA true 0 W)
  have hS := Boxes.start w
  clear hw
  go_enter Tryz.func7, Tryz.ntmps7
  go_upto_region 6 with (first | ((with_reducible refine gate_op (op := .build 39 #[(0, .const (.int .i64 1)), (1, .const (.int .i64 2)), (2, .const (.string ⟨#[97]⟩)), (3, .const (.bool false)), (4, .const (.int .i64 7))]) rfl ?_); refine build_arm rfl 39 #[(0, .const (.int .i64 1)), (1, .const (.int .i64 2)), (2, .const (.string ⟨#[97]⟩)), (3, .const (.bool false)), (4, .const (.int .i64 7))] rfl #[(0, .int .i64 1), (1, .int .i64 2), (2, .string kA), (3, .bool false), (4, .int .i64 7)] (by simp only [List.map_toArray, List.map_cons, List.map_nil]; rfl) _ (b1.out _) ?_) | ((with_reducible refine gate_op (op := .build 39 #[(0, .const (.int .i64 1)), (1, .const (.int .i64 1)), (2, .const (.string ⟨#[97]⟩)), (3, .const (.bool true)), (4, .const (.int .i64 0))]) rfl ?_); refine build_arm rfl 39 #[(0, .const (.int .i64 1)), (1, .const (.int .i64 1)), (2, .const (.string ⟨#[97]⟩)), (3, .const (.bool true)), (4, .const (.int .i64 0))] rfl #[(0, .int .i64 1), (1, .int .i64 1), (2, .string kA), (3, .bool true), (4, .int .i64 0)] (by simp only [List.map_toArray, List.map_cons, List.map_nil]; rfl) _ (b2.out _) ?_) | go_skip | (go_at_call 8; (with_reducible (refine (lNew_any _).mono ?_)); rintro e wn ⟨p, b, rfl, hbx⟩; have hS1 := hS.app hbx; simp only [List.nil_append] at hS1; clear hS hbx; have hS := hS1; clear hS1) | (go_at_call 10; (with_reducible (refine (wOp_any ⟨1, 2, kA, false, 7⟩ _).mono ?_)); rintro e wn ⟨rfl, hbn⟩; have hS1 := hS.step hbn; clear hS hbn; have hS := hS1; clear hS1) | (go_at_call 10; (with_reducible (refine (wOp_any ⟨1, 1, kA, true, 0⟩ _).mono ?_)); rintro e wn ⟨rfl, hbn⟩; have hS1 := hS.step hbn; clear hS hbn; have hS := hS1; clear hS1) | (go_at_call 9; refine (apply_A p b _ (HV.out.step hS.below) (hS.at_ 1 rfl) (hS.at_ 0 rfl)).mono ?_; rintro e wn ⟨y, rfl, hy, hgn, hbut⟩; have hS1 := hS.turn 0 rfl hbut hgn; clear hS hgn hbut; simp only [List.set_cons_zero, List.set_cons_succ] at hS1; have hS := hS1; clear hS1; have HY := Lib.hid hy; clear hy) | (go_at_call 9; refine (apply_B y p b _ HY.out (HV.out.step hS.below) (hS.at_ 1 rfl) (hS.at_ 0 rfl)).mono ?_; rintro e wn ⟨rfl, hgn, hbut⟩; have hS1 := hS.turn 0 rfl hbut hgn; clear hS hgn hbut; simp only [List.set_cons_zero, List.set_cons_succ] at hS1; have hS := hS1; clear hS1))
  go_upto_region 9 with (first | ((with_reducible refine gate_op (op := .build 39 #[(0, .const (.int .i64 1)), (1, .const (.int .i64 3)), (2, .const (.string ⟨#[97]⟩)), (3, .const (.bool true)), (4, .const (.int .i64 0))]) rfl ?_); refine build_arm rfl 39 #[(0, .const (.int .i64 1)), (1, .const (.int .i64 3)), (2, .const (.string ⟨#[97]⟩)), (3, .const (.bool true)), (4, .const (.int .i64 0))] rfl #[(0, .int .i64 1), (1, .int .i64 3), (2, .string kA), (3, .bool true), (4, .int .i64 0)] (by simp only [List.map_toArray, List.map_cons, List.map_nil]; rfl) _ (b3.out _) ?_) | go_skip | (go_at_call 10; (with_reducible (refine (wOp_any ⟨1, 3, kA, true, 0⟩ _).mono ?_)); rintro e wn ⟨rfl, hbn⟩; have hS1 := hS.step hbn; clear hS hbn; have hS := hS1; clear hS1) | (go_at_call 11; refine (get_A y p b _ HY.out (hS.at_ 1 rfl) (hS.at_ 0 rfl)).mono ?_; rintro e wn ⟨z, rfl, hz, hv, hbn⟩; have hS1 := hS.step hbn; clear hS hbn; have hS := hS1; clear hS1; have HZ := Lib.hid (And.intro hz hv); have hzs := hz.seen; clear hz hv) | ((with_reducible refine gate_op (op := .alloc 36) rfl ?_); refine alloc_arm rfl 36 rfl (op_alloc _) ?_; intro wn hbn hgn; have hS1 := hS.new hbn hgn; (try simp only [List.nil_append, List.cons_append, List.set_cons_zero, List.set_cons_succ] at hS1); clear hS hbn hgn; have hS := hS1; clear hS1) | (((with_reducible refine gate_op (op := .store 36 (.tmp 4) (.tmp 21)) rfl ?_); refine wpList_store_row rfl 36 (.tmp 4) (.tmp 21) rfl _ z.o.c rfl rfl 36 _ (hS.at_ 2 rfl) (op_info _ hzs) ((OpV.size (o := zeroO) rfl).trans (OpV.size (o := z.o) hzs).symm) (ot_one HZ.out.1.vc) ?_; intro wn hbn hgn hon hsn; have hS1 := hS.put 2 rfl hon hbn hgn; (try simp only [List.nil_append, List.cons_append, List.set_cons_zero, List.set_cons_succ] at hS1); clear hS hbn hgn hon hsn; have hS := hS1; clear hS1)) | (go_at_call 21; refine (lCopy_any (lA y) p b _ (hS.at_ 1 rfl) (hS.at_ 0 rfl)).mono ?_; rintro e wn ⟨p2, b2, rfl, hbx⟩; have hS1 := hS.app hbx; simp only [List.nil_append, List.cons_append] at hS1; clear hS hbx; have hS := hS1; clear hS1) | (go_at_call 9; refine (apply_C y p2 b2 _ HY.out (HV.out.step hS.below) (hS.at_ 4 rfl) (hS.at_ 3 rfl)).mono ?_; rintro e wn ⟨q, rfl, hq, hqk, hgn, hbut⟩; have hS1 := hS.turn 3 rfl hbut hgn; clear hS hgn hbut; simp only [List.set_cons_zero, List.set_cons_succ] at hS1; have hS := hS1; clear hS1; have HQ := Lib.hid (And.intro hq hqk); clear hq hqk))
  rename World => w9
  have x75 : w9.cell? ⟨_, 75, none⟩ = some (.int .i64 7) := ((cell_of_row _ _ 75 _ _ _ (hS.at_ 2 rfl)).trans (OpV.g75 hzs)).trans (by rw [HZ.out.2])
  go_wp2_with (first | go_skip | (go_at_call 12; refine (len_A y p b _ HY.out (hS.at_ 1 rfl) (hS.at_ 0 rfl)).mono ?_; rintro e wn ⟨rfl, hbn⟩; have hS1 := hS.step hbn; clear hS hbn; have hS := hS1; clear hS1) | (go_at_call 12; refine (len_C q p2 b2 _ HQ.out.1 HQ.out.2 (hS.at_ 4 rfl) (hS.at_ 3 rfl)).mono ?_; rintro e wn ⟨rfl, hbn⟩; have hS1 := hS.step hbn; clear hS hbn; have hS := hS1; clear hS1) | (go_at_call 13; refine (keys_A y p b _ HY.out (hS.at_ 1 rfl) (hS.at_ 0 rfl)).mono ?_; rintro e wn ⟨A, g, c, rfl, hs, hbn⟩; have hS1 := hS.step hbn; clear hS hbn; have hS := hS1; clear hS1; have HSI := Lib.hid hs; clear hs) | (go_at_call 19; refine (texts_any A _ g _ c _ [[97]] [[97]] _ (HSI.out.move (Below.alloc (Below.refl _ _) (Nat.le_refl _) _)) (sin_one _ [97] _) (by decide) (by decide)).mono ?_; rintro e wn ⟨rfl, hbn⟩; have hS1 := (hS.alloc _).step hbn; clear hS hbn; have hS := hS1; clear hS1))
  go_ret
  exact ⟨rfl, hS.below⟩
end Go.Proofs.YteplcnpmdjdlkaaGreatDoor
