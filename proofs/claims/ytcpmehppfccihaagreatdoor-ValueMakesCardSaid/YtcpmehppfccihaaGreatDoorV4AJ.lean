/-
  Law 4's awake, walked as far as its last statement. Condition: the library's variables as it lays them.
-/
import Derived.Test.YtcpmehppfccihaaGreatDoorJ17
import Derived.Test.YtcpmehppfccihaaGreatDoorJ18
import Derived.Test.YtcpmehppfccihaaGreatDoorJ7
import Derived.Test.YtcpmehppfccihaaGreatDoorJ15
import Derived.Test.YtcpmehppfccihaaGreatDoorVGetJ
import Derived.Test.YtcpmehppfccihaaGreatDoorJ19
namespace Go.Proofs.YtcpmehppfccihaaGreatDoor
open Go.RowKit
set_option linter.unusedVariables false
set_option linter.unusedSimpArgs false
def kB : ByteArray := ⟨#[98]⟩
def kA : ByteArray := ⟨#[97]⟩
def tI (n : Int) : VT := VT.leaf 2 n ⟨#[]⟩
def tT : VT := VT.leaf 1 1 ⟨#[]⟩
theorem num_5 (W : World) (hw : Vars W) : Calls Tryz.prog 10 #[.string ⟨#[53]⟩] W fun e w' => e = .returned (.tuple #[.agg (VT.leaf 2 5 ⟨#[]⟩).c, .int .i64 0]) ∧ Below W.heap.size W w' := vNum_any ⟨#[53]⟩ W hw (by kernel_rfl)
theorem str_x (W : World) : Calls Tryz.prog 11 #[.string ⟨#[120]⟩] W fun e w' => e = .returned (.tuple #[.agg (VT.leaf 4 0 ⟨#[120]⟩).c, .int .i64 0]) ∧ Below W.heap.size W w' := vStr_any ⟨#[120]⟩ W (by decide)
theorem stamp_t (W : World) : Calls Tryz.prog 12 #[.string ⟨#[49, 48, 58, 48, 48, 58, 48, 48]⟩] W fun e w' => e = .returned (.tuple #[.agg (VT.leaf 7 0 ⟨#[49, 48, 58, 48, 48, 58, 48, 48]⟩).c, .int .i64 0]) ∧ Below W.heap.size W w' := vStamp_any ⟨#[49, 48, 58, 48, 48, 58, 48, 48]⟩ W (by decide)
theorem int_1 (W : World) : Calls Tryz.prog 25 #[.int .i64 1] W fun e w' => e = .returned (.agg (VT.leaf 2 1 ⟨#[]⟩).c) ∧ Below W.heap.size W w' := vInt_any 1 W
def srtK : Nat → ByteArray := keyS 2 (two kB kA) (two (tI 1) tT)
def srtV : Nat → VT := valS 2 (two kB kA) (two (tI 1) tT)
theorem srtK0 : srtK 0 = kA := by kernel_rfl
theorem srtK1 : srtK 1 = kB := by kernel_rfl
theorem srtV0 : srtV 0 = tT := by kernel_rfl
theorem srtV1 : srtV 1 = tI 1 := by kernel_rfl
theorem tI_in (n : Int) (h : -9223372036854775808 ≤ n ∧ n ≤ 9223372036854775807) (B : Nat) (W : World) : VT.In B W (tI n) := VT.leaf_in B W 2 n _ h.1 h.2 (by omega) (by omega) (by show (0 : Nat) ≤ _; omega)
theorem tT_in (B : Nat) (W : World) : VT.In B W tT := VT.leaf_in B W 1 1 _ (by omega) (by omega) (by omega) (by omega) (by show (0 : Nat) ≤ _; omega)
theorem two_in {x y : VT} (hx : ∀ B W, VT.In B W x) (hy : ∀ B W, VT.In B W y) (i : Nat) (B : Nat) (W : World) : VT.In B W (two x y i) := by unfold two; split <;> first | exact hx B W | exact hy B W
theorem map_2 (b : Nat) (W : World) (hb : W.heap[b]? = some (.cells (pcK kB (tI 1) ++ pcK kA tT) 34 (0, 0))) :
    Calls Tryz.prog 13 #[.slice (some ⟨b, 0, none⟩) 2 2] W fun e w' => ∃ (y : VT) (A' : Option Addr) (g' c' : Nat), e = .returned (.tuple #[.agg y.c, .int .i64 0]) ∧ Cop W.heap.size (mapT A' g' 0 2 c' srtK srtV) y w' ∧ Below W.heap.size W w' := by
  have hi : VT.In W.heap.size W (mapT (some ⟨b, 0, none⟩) b 0 2 2 (two kB kA) (two (tI 1) tT)) := map_in hb (row_p2 kB kA (tI 1) tT) (by decide) (fun i _ => by unfold two; split <;> decide) (fun i _ => two_in (tI_in 1 (by omega)) tT_in i W.heap.size W)
  refine vMap_ok _ _ _ _ _ _ _ W hi (by decide) (fun i h0 h1 => ?_) (fun i h1 => ?_) (fun i h1 => ?_) (fun i h1 => ?_)
  · obtain rfl : i = 1 := by omega
    show ((srtK 1).toList == (srtK 0).toList) = false
    rw [srtK0, srtK1]
    kernel_rfl
  · show letC (srtK i) = 0
    rcases (show i = 0 ∨ i = 1 by omega) with rfl | rfl
    · rw [srtK0]; kernel_rfl
    · rw [srtK1]; kernel_rfl
  · show (srtK i).size ≤ _
    rcases (show i = 0 ∨ i = 1 by omega) with rfl | rfl
    · rw [srtK0]; decide
    · rw [srtK1]; decide
  · show VT.In W.heap.size W (srtV i) ∧ VT.Sm (srtV i)
    rcases (show i = 0 ∨ i = 1 by omega) with rfl | rfl
    · rw [srtV0]; exact ⟨tT_in _ _, VT.leaf_sm _ _ _⟩
    · rw [srtV1]; exact ⟨tI_in 1 (by omega) _ _, VT.leaf_sm _ _ _⟩
/-- What is known of the map that awake makes. -/
structure MapY (y : VT) : Prop where
  k : y.k = 6
  mn : y.mn = 2
  k0 : y.key 0 = kA
  k1 : y.key 1 = kB
  n0 : (y.mt 0).n = 1
  n1 : (y.mt 1).n = 1
  good : goodT y = true
  sm : VT.Sm y
theorem mapY_of {y : VT} {A : Option Addr} {g c : Nat} (h : sameV y (mapT A g 0 2 c srtK srtV) = true) : MapY y := by
  have hg := goodT_same h
  obtain ⟨h1, h2, h3, h4, h5, h6, h7⟩ := sameV_parts h
  have h4 : y.mn = 2 := h4
  have a0 := h7 0 (by omega)
  have a1 := h7 1 (by omega)
  have b0 : sameV (y.mt 0) tT = true := by rw [← srtV0]; exact a0.2
  have b1 : sameV (y.mt 1) (tI 1) = true := by rw [← srtV1]; exact a1.2
  have h3 : y.ln = 0 := h3
  have sm0 : ∀ {u v : VT}, sameV u v = true → v.ln = 0 → v.mn = 0 → VT.Sm u := fun {u v} h e1 e2 => by
    obtain ⟨_, _, k3, k4, _⟩ := sameV_parts h
    exact .mk (by rw [k3, e1]; decide) (by rw [k4, e2]; decide) (fun i hi => by omega) (fun i hi => by omega)
  refine ⟨h1, h4, a0.1.trans srtK0, a1.1.trans srtK1, (sameV_parts b0).2.1, (sameV_parts b1).2.1, ?_, ?_⟩
  · rw [hg]
    kernel_rfl
  · refine .mk (by rw [h3]; decide) (by rw [h4]; decide) (fun i hi => by omega) (fun i hi => ?_)
    rcases (show i = 0 ∨ i = 1 by omega) with rfl | rfl
    · exact sm0 b0 rfl rfl
    · exact sm0 b1 rfl rfl
/-- What is known of the list that awake makes. -/
structure ListY (y : VT) : Prop where
  k : y.k = 5
  ln : y.ln = 4
  size : sizeW y = 5
  deep : deepW y = 2
def listX : Nat → VT := four (VT.leaf 2 5 ⟨#[]⟩) (VT.leaf 4 0 ⟨#[120]⟩) (VT.leaf 7 0 ⟨#[49, 48, 58, 48, 48, 58, 48, 48]⟩) .no
theorem listY_of {y : VT} {A : Option Addr} {b c : Nat} (h : sameV y (listT A b 0 4 c listX) = true) : ListY y := by
  have hs := sizeW_same h
  have hd := deepW_same h
  obtain ⟨h1, h2, h3, h4, h5, h6, h7⟩ := sameV_parts h
  refine ⟨h1, h3, ?_, ?_⟩
  · rw [hs]; kernel_rfl
  · rw [hd]; kernel_rfl
theorem get_b (y : VT) (h : MapY y) (W : World) (hi : VT.In W.heap.size W y) : Calls Tryz.prog 14 #[.agg y.c, .string ⟨#[98]⟩] W fun e w' => e = .returned (.tuple #[.agg (y.mt 1).c, .bool true]) ∧ Below W.heap.size W w' := by
  have h1 : isK y kB 1 = true := by unfold isK; rw [h.k1]; kernel_rfl
  have h0 : ∀ j, j < 1 → isK y kB j = false := fun j hj => by
    obtain rfl : j = 0 := by omega
    unfold isK
    rw [h.k0]
    kernel_rfl
  have := vGet_any y kB W hi
  have hg : getV y kB = (y.mt 1, true) := by unfold getV; rw [if_pos h.k, find_some (by rw [h.mn]; decide) h1 h0]
  rw [hg] at this
  exact this
theorem listX_leaf (i : Nat) : (listX i).ln = 0 ∧ (listX i).mn = 0 := by
  unfold listX four
  (repeat' split) <;> exact ⟨rfl, rfl⟩
theorem listX_at {y : VT} {A : Option Addr} {b c : Nat} {P : Nat → Prop} (h : sameV y (listT A b 0 4 c listX) = true) (hp : P y.lb) : VT.At P y := by
  obtain ⟨h1, h2, h3, h4, h5, h6, h7⟩ := sameV_parts h
  have h4 : y.mn = 0 := h4
  refine .mk (fun _ => hp) (fun h => by omega) (fun i hi => ?_) (fun i hi => by omega)
  obtain ⟨_, _, k3, k4, _⟩ := sameV_parts (h6 i hi)
  have k3 : (y.lt i).ln = 0 := k3.trans (listX_leaf i).1
  have k4 : (y.lt i).mn = 0 := k4.trans (listX_leaf i).2
  exact .mk (fun h => by omega) (fun h => by omega) (fun j hj => by omega) (fun j hj => by omega)
set_option maxRecDepth 100000 in
set_option maxHeartbeats 1000000 in
theorem awake4_any (w : World) (hw : Vars w) : Calls Tryz.prog 9 #[] w fun e w' => e = .returned (.bool true) ∧ Below w.heap.size w w' := by
  have HV := Lib.hid hw
  clear hw
  have p1 := Lib.hid build_p
  have p2 := Lib.hid slice_p2
  have hS := Boxes.start w
  go_enter Tryz.func9, Tryz.ntmps9
  go_wp2_with (first | go_skip | (go_at_call 10; (with_reducible (refine (num_5 _ (HV.out.step hS.below)).mono ?_)); rintro e wn ⟨rfl, hbn⟩; have hS1 := hS.step hbn; clear hS hbn; have hS := hS1; clear hS1) | (go_at_call 25; (with_reducible (refine (int_1 _).mono ?_)); rintro e wn ⟨rfl, hbn⟩; have hS1 := hS.step hbn; clear hS hbn; have hS := hS1; clear hS1) | (go_at_call 35; (with_reducible (refine (vBool_t _).mono ?_)); rintro e wn ⟨rfl, hbn⟩; have hS1 := hS.step hbn; clear hS hbn; have hS := hS1; clear hS1) | ((with_reducible refine gate_op (op := .build 34 #[(0, .const (.string ⟨#[98]⟩)), (1, .tmp 17)]) rfl ?_); refine build_arm rfl 34 #[(0, .const (.string ⟨#[98]⟩)), (1, .tmp 17)] rfl #[(0, .string ⟨#[98]⟩), (1, .agg (VT.c (VT.leaf 2 1 ⟨#[]⟩)))] (by simp only [List.map_toArray, List.map_cons, List.map_nil]; rfl) _ (p1.out ⟨#[98]⟩ (VT.leaf 2 1 ⟨#[]⟩) _) ?_) | ((with_reducible refine gate_op (op := .build 34 #[(0, .const (.string ⟨#[97]⟩)), (1, .tmp 19)]) rfl ?_); refine build_arm rfl 34 #[(0, .const (.string ⟨#[97]⟩)), (1, .tmp 19)] rfl #[(0, .string ⟨#[97]⟩), (1, .agg (VT.c (VT.leaf 1 1 ⟨#[]⟩)))] (by simp only [List.map_toArray, List.map_cons, List.map_nil]; rfl) _ (p1.out ⟨#[97]⟩ (VT.leaf 1 1 ⟨#[]⟩) _) ?_) | ((with_reducible refine gate_op (op := .buildSlice 25 2 #[(0, .tmp 18), (1, .tmp 20)]) rfl ?_); refine slice_arm rfl 25 2 #[(0, .tmp 18), (1, .tmp 20)] rfl #[(0, .agg (pcK ⟨#[98]⟩ (VT.leaf 2 1 ⟨#[]⟩))), (1, .agg (pcK ⟨#[97]⟩ (VT.leaf 1 1 ⟨#[]⟩)))] (by simp only [List.map_toArray, List.map_cons, List.map_nil]; rfl) _ _ (p2.out ⟨#[98]⟩ ⟨#[97]⟩ (VT.leaf 2 1 ⟨#[]⟩) (VT.leaf 1 1 ⟨#[]⟩) _) ?_; intro wn hbn hgn; have hS1 := hS.new hbn hgn; clear hS hbn hgn; have hS := hS1; clear hS1) | ((with_reducible refine gate_op (op := .alloc 27) rfl ?_); refine alloc_arm rfl 27 rfl (val_alloc _) ?_; intro wn hbn hgn; have hS1 := hS.new hbn hgn; (try simp only [List.nil_append, List.cons_append, List.set_cons_zero, List.set_cons_succ] at hS1); clear hS hbn hgn; have hS := hS1; clear hS1) | ((with_reducible refine gate_op (op := .store 27 (.tmp 1) (.tmp 14)) rfl ?_); refine wpList_store_row rfl 27 (.tmp 1) (.tmp 14) rfl _ (VT.c (VT.leaf 2 5 ⟨#[]⟩)) rfl rfl 27 _ (hS.at_ 0 rfl) (VT.val_info _) rfl (VT.c_one _) ?_; intro wn hbn hgn hon hsn; have hS1 := hS.put 0 rfl hon hbn hgn; (try simp only [List.nil_append, List.cons_append, List.set_cons_zero, List.set_cons_succ] at hS1); clear hS hbn hgn hon hsn; have hS := hS1; clear hS1))
  rename World => w1
  have hrow := hS.at_ 1 rfl
  refine (map_2 _ _ hrow).mono ?_
  rintro e w2 ⟨y, A', g', c', rfl, hy0, hb2⟩
  have hS0 := hS.step hb2
  have g1 : w2.heap[_]? = some (Obj.cells (VT.leaf 2 5 ⟨#[]⟩).c 27) := hS0.at_ 0 rfl
  have G1 := Lib.hid g1
  have L1 := Lib.hid (hS0.lt 0 rfl)
  have B0 := Lib.hid hS0.below
  have HV2 := Lib.hid (HV.out.step hS0.below)
  have hY := Lib.hid (mapY_of hy0.same)
  have hYi := Lib.hid hy0.tin
  clear hS0 hS hrow hy0 hb2 HV p1 p2 g1
  have hS := Boxes.start w2
  go_wp2_with (first | go_skip | (go_at_call 11; (with_reducible (refine (str_x _).mono ?_)); rintro e wn ⟨rfl, hbn⟩; have hS1 := hS.step hbn; clear hS hbn; have hS := hS1; clear hS1) | (go_at_call 12; (with_reducible (refine (stamp_t _).mono ?_)); rintro e wn ⟨rfl, hbn⟩; have hS1 := hS.step hbn; clear hS hbn; have hS := hS1; clear hS1) | ((with_reducible refine gate_op (op := .alloc 27) rfl ?_); refine alloc_arm rfl 27 rfl (val_alloc _) ?_; intro wn hbn hgn; have hS1 := hS.new hbn hgn; (try simp only [List.nil_append, List.cons_append, List.set_cons_zero, List.set_cons_succ] at hS1); clear hS hbn hgn; have hS := hS1; clear hS1) | ((with_reducible refine gate_op (op := .store 27 (.tmp 3) (.tmp 23)) rfl ?_); refine wpList_store_row rfl 27 (.tmp 3) (.tmp 23) rfl _ (VT.c y) rfl rfl 27 _ (hS.at_ 0 rfl) (VT.val_info _) rfl (VT.c_one _) ?_; intro wn hbn hgn hon hsn; have hS1 := hS.put 0 rfl hon hbn hgn; (try simp only [List.nil_append, List.cons_append, List.set_cons_zero, List.set_cons_succ] at hS1); clear hS hbn hgn hon hsn; have hS := hS1; clear hS1) | ((with_reducible refine gate_op (op := .store 27 (.tmp 5) (.tmp 27)) rfl ?_); refine wpList_store_row rfl 27 (.tmp 5) (.tmp 27) rfl _ (VT.c (VT.leaf 4 0 ⟨#[120]⟩)) rfl rfl 27 _ (hS.at_ 1 rfl) (VT.val_info _) rfl (VT.c_one _) ?_; intro wn hbn hgn hon hsn; have hS1 := hS.put 1 rfl hon hbn hgn; (try simp only [List.nil_append, List.cons_append, List.set_cons_zero, List.set_cons_succ] at hS1); clear hS hbn hgn hon hsn; have hS := hS1; clear hS1) | ((with_reducible refine gate_op (op := .store 27 (.tmp 7) (.tmp 31)) rfl ?_); refine wpList_store_row rfl 27 (.tmp 7) (.tmp 31) rfl _ (VT.c (VT.leaf 7 0 ⟨#[49, 48, 58, 48, 48, 58, 48, 48]⟩)) rfl rfl 27 _ (hS.at_ 2 rfl) (VT.val_info _) rfl (VT.c_one _) ?_; intro wn hbn hgn hon hsn; have hS1 := hS.put 2 rfl hon hbn hgn; (try simp only [List.nil_append, List.cons_append, List.set_cons_zero, List.set_cons_succ] at hS1); clear hS hbn hgn hon hsn; have hS := hS1; clear hS1))
  rename World => w3
  refine regAw5 (by kernel_rfl) (x0 := VT.leaf 2 5 ⟨#[]⟩) (x1 := VT.leaf 4 0 ⟨#[120]⟩) (x2 := VT.leaf 7 0 ⟨#[49, 48, 58, 48, 48, 58, 48, 48]⟩) (of_decide_eq_true (by kernel_rfl)) rfl rfl rfl ((hS.below.block _ L1.out).trans G1.out) (hS.at_ 1 rfl) (hS.at_ 2 rfl) (fun B W => VT.leaf_in _ _ _ _ _ (by decide) (by decide) (by decide) (by decide) (by decide)) (fun B W => VT.leaf_in _ _ _ _ _ (by decide) (by decide) (by decide) (by decide) (by decide)) (fun B W => VT.leaf_in _ _ _ _ _ (by decide) (by decide) (by decide) (by decide) (by decide)) (VT.leaf_sm _ _ _) (VT.leaf_sm _ _ _) (VT.leaf_sm _ _ _) ?_
  intro θ wX b b' yl e5 e6 hyl hnb hX
  simp only [seqTo, dstOf, Act.put, List.getElem?_toArray, List.getElem?_cons_zero, List.getElem?_cons_succ, Option.bind_some, List.setIfInBounds_toArray, List.set_cons_zero, List.set_cons_succ, List.drop_succ_cons, List.drop_zero]
  rw [e5, e6]
  have hl3 := Lib.hid (hS.lt 0 rfl)
  have hL := listY_of (A := some ⟨b', 0, none⟩) (b := b') (c := 4) hyl.same
  have hap : yl.lb ≠ b := apart_of hyl.tin hnb.2 (by rw [hL.ln]; decide) (by rw [hL.ln]; decide)
  have hAt : VT.At (fun x => x ≠ b) yl := listX_at hyl.same hap
  have hS1 := hS.add hX hnb.1 hnb.2
  clear hS e5 e6
  refine wpList_store_row rfl 27 (.tmp 9) (.tmp 38) rfl _ yl.c rfl rfl 27 _ (hS1.at_ 3 rfl) (VT.val_info _) rfl (VT.c_one _) ?_
  intro wn hbn hgn hon hsn
  have hS2 := hS1.put 3 rfl hon hbn hgn
  have q1 : wn.heap[_]? = some (Obj.cells (VT.leaf 2 5 ⟨#[]⟩).c 27) := (hS2.below.block _ L1.out).trans G1.out
  have q3 : wn.heap[_]? = some (Obj.cells y.c 27) := hS2.at_ 0 rfl
  have q5 : wn.heap[_]? = some (Obj.cells (VT.leaf 4 0 ⟨#[120]⟩).c 27) := hS2.at_ 1 rfl
  have q7 : wn.heap[_]? = some (Obj.cells (VT.leaf 7 0 ⟨#[49, 48, 58, 48, 48, 58, 48, 48]⟩).c 27) := hS2.at_ 2 rfl
  have q9 : wn.heap[_]? = some (Obj.cells yl.c 27) := hS2.at_ 3 rfl
  have Q1 := Lib.hid q1
  have Q3 := Lib.hid q3
  have Q5 := Lib.hid q5
  have Q7 := Lib.hid q7
  have Q9 := Lib.hid q9
  have yi : VT.In wn.heap.size wn y := (hYi.out.move hS2.below).up hS2.below.size
  have li : VT.In wn.heap.size wn yl := by rw [hsn]; exact hyl.tin.but hAt hon
  have YI := Lib.hid yi
  have LI := Lib.hid li
  have B1 := Lib.hid (B0.out.trans (hS2.below.mono B0.out.size))
  have HV3 := Lib.hid (HV2.out.step hS2.below)
  have HL := Lib.hid hL
  clear q1 q3 q5 q7 q9 yi li hS1 hS2 hbn hgn hon hsn hyl hnb hX hap hAt hL hl3 B0 HV2 L1 G1 hYi
  rename World => w5
  have hS := Boxes.start w5
  go_wp2_with (first | go_skip | ((with_reducible refine gate_op (op := .load 27 (.tmp 3)) rfl ?_); refine wpList_load_row' rfl 27 (.tmp 3) rfl _ rfl 27 _ (0, 0) _ Q3.out Tryz.underlying27 rfl (VT.val_info y) ?_) | (go_at_call 14; (with_reducible (refine (get_b y hY.out _ ((YI.out.move hS.below).up hS.below.size)).mono ?_)); rintro e wn ⟨rfl, hbn⟩; have hS1 := hS.step hbn; clear hS hbn; have hS := hS1; clear hS1) | ((with_reducible refine gate_op (op := .alloc 27) rfl ?_); refine alloc_arm rfl 27 rfl (val_alloc _) ?_; intro wn hbn hgn; have hS1 := hS.new hbn hgn; (try simp only [List.nil_append, List.cons_append, List.set_cons_zero, List.set_cons_succ] at hS1); clear hS hbn hgn; have hS := hS1; clear hS1) | ((with_reducible refine gate_op (op := .store 27 (.tmp 10) (.tmp 42)) rfl ?_); refine wpList_store_row rfl 27 (.tmp 10) (.tmp 42) rfl _ (VT.c (y.mt 1)) rfl rfl 27 _ (hS.at_ 0 rfl) (VT.val_info _) rfl (VT.c_one _) ?_; intro wn hbn hgn hon hsn; have hS1 := hS.put 0 rfl hon hbn hgn; (try simp only [List.nil_append, List.cons_append, List.set_cons_zero, List.set_cons_succ] at hS1); clear hS hbn hgn hon hsn; have hS := hS1; clear hS1))
  rename World => w6
  have hB6 := hS.below
  have r3 := (hB6.block _ (Array.getElem?_eq_some_iff.1 Q3.out).1).trans Q3.out
  have r9 := (hB6.block _ (Array.getElem?_eq_some_iff.1 Q9.out).1).trans Q9.out
  have r10 : w6.heap[_]? = some (Obj.cells (y.mt 1).c 27) := hS.at_ 0 rfl
  have YI6 := Lib.hid ((YI.out.move hB6).up hB6.size)
  have LI6 := Lib.hid ((LI.out.move hB6).up hB6.size)
  have HV6 := Lib.hid (HV3.out.step hB6)
  have k1a := cell_regrown (cell_of_row w6 _ 0 _ _ _ ((hB6.block _ (Array.getElem?_eq_some_iff.1 Q1.out).1).trans Q1.out) |>.trans (show _ = some (.int .i64 2) from rfl))
  have k1b := cell_regrown (cell_of_row w6 _ 1 _ _ _ ((hB6.block _ (Array.getElem?_eq_some_iff.1 Q1.out).1).trans Q1.out) |>.trans (show _ = some (.int .i64 5) from rfl))
  have k3 := cell_regrown ((cell_of_row w6 _ 4 _ _ _ r3).trans (show _ = some (.slice y.mA 2 y.mc) from (show y.c[4]? = some (.slice y.mA y.mn y.mc) from rfl).trans (by rw [hY.out.mn])))
  have xm : ∀ W, (Instr.indexAt 25 (.slice y.mA 2 y.mc) (.int .i64 0)).run Tryz.prog W = .ok (.pointer (some ⟨y.mb, y.mo, none⟩)) W := fun W => by
    have := YI6.out.here.mix (i := 0) (by rw [hY.out.mn]; decide) W
    rw [hY.out.mn, Nat.zero_mul, Nat.add_zero] at this
    exact this
  have kk := cell_regrown (show w6.cell? ⟨y.mb, y.mo, none⟩ = some (.string ⟨#[97]⟩) by
    have := YI6.out.here.mcell 0 (by rw [hY.out.mn]; decide) 0 (.string (y.key 0)) rfl
    rw [Nat.zero_mul, hY.out.k0] at this
    exact this)
  have kn := cell_regrown (show w6.cell? ⟨y.mb, y.mo + 1 + 1, none⟩ = some (.int .i64 1) by
    have := YI6.out.here.mcell 0 (by rw [hY.out.mn]; decide) 2 (.int .i64 (y.mt 0).n) rfl
    rw [Nat.zero_mul, Nat.add_zero, hY.out.n0] at this
    exact this)
  have kn' := cell_regrown (show w6.cell? ⟨y.mb, y.mo + 2, none⟩ = some (.int .i64 1) by
    have := YI6.out.here.mcell 0 (by rw [hY.out.mn]; decide) 2 (.int .i64 (y.mt 0).n) rfl
    rw [Nat.zero_mul, Nat.add_zero, hY.out.n0] at this
    exact this)
  have k5 := cell_regrown (cell_of_row w6 _ 2 _ _ _ ((hB6.block _ (Array.getElem?_eq_some_iff.1 Q5.out).1).trans Q5.out) |>.trans (show _ = some (.string ⟨#[120]⟩) from rfl))
  have k7 := cell_regrown (cell_of_row w6 _ 0 _ _ _ ((hB6.block _ (Array.getElem?_eq_some_iff.1 Q7.out).1).trans Q7.out) |>.trans (show _ = some (.int .i64 7) from rfl))
  have k9 := cell_regrown ((cell_of_row w6 _ 3 _ _ _ r9).trans (show _ = some (.slice yl.lA 4 yl.lc) from (show yl.c[3]? = some (.slice yl.lA yl.ln yl.lc) from rfl).trans (by rw [HL.out.ln])))
  have k9' := cell_regrown ((cell_of_row w6 _ 0 _ _ _ r9).trans (show _ = some (.int .i64 5) from (show yl.c[0]? = some (.int .i64 yl.k) from rfl).trans (by rw [HL.out.k])))
  have k10 := cell_regrown ((cell_of_row w6 _ 1 _ _ _ r10).trans (show _ = some (.int .i64 1) from (show (y.mt 1).c[1]? = some (.int .i64 (y.mt 1).n) from rfl).trans (by rw [hY.out.n1])))
  have d1 := grown_calls (w := w6) (fun W hb => by have := vsize_v yl W ((LI6.out.move hb).up hb.size); rw [HL.out.size] at this; exact this)
  have d2 := grown_calls (w := w6) (fun W hb => by have := vdeep_v yl W ((LI6.out.move hb).up hb.size); rw [HL.out.deep] at this; exact this)
  have d3 := grown_calls (w := w6) (fun W hb => by have := goodT_any y W (HV6.out.step hb) ((YI6.out.move hb).up hb.size); rw [hY.out.good] at this; exact this)
  have R3 := Lib.hid r3
  have R9 := Lib.hid r9
  have B6 := Lib.hid hB6
  clear r3 r9 r10 hB6 hS Q1 Q3 Q5 Q7 Q9 YI LI HV3
  refine wp_region_mid aw7 (by kernel_rfl) 93 (by kernel_rfl) aw7_sel aw7_ord (by decide) aw7_mid (fun w' => ∃ p : Regrown, w' = Go.Sort.grow (redrawn w6 p.d) p.os) (fun v W => ∃ y2 : VT, v = .agg y2.c ∧ Cop w6.heap.size y y2 W) ⟨⟨w6.drawn + 1, #[]⟩, by rw [Go.Sort.grow_empty]; rfl⟩ ?_
  simp only [List.append, List.take_succ_cons, List.take_zero]
  repeat (first | go_big_quiet_skip | (refine BigFrame.wpQuiet_want rfl (fun K hK => ?_); refine quiet_load_row 27 (.tmp 3) rfl _ rfl 27 _ (0, 0) _ (row_regrown R3.out) Tryz.underlying27 rfl (VT.val_info y) ?_; refine hK _ ?_; clear hK K) | (refine BigFrame.wpQuiet_want rfl (fun K hK => ?_); refine quiet_load_row 27 (.tmp 9) rfl _ rfl 27 _ (0, 0) _ (row_regrown R9.out) Tryz.underlying27 rfl (VT.val_info yl) ?_; refine hK _ ?_; clear hK K) | (quiet_step (first | with_reducible exact d1 _ _ | with_reducible exact d2 _ _ | with_reducible exact d3 _ _)))
  refine wpQuiet_nil ?_
  intro o ho
  simp only [List.getElem?_toArray, List.append, List.getElem?_cons_succ, List.getElem?_cons_zero, Option.some.injEq] at ho
  subst ho
  refine ⟨rfl, ?_, ?_⟩
  · rintro W ⟨p, rfl⟩
    have hbW := below_regrown w6 p.d p.os
    exact gives_call_ex #[.tmp 136] #[27] rfl (f := 30) Tryz.func30 (by kernel_rfl) rfl #[.agg y.c] (one_arg rfl) ((vCopy_any y _ ((YI6.out.move hbW).up hbW.size) hY.out.sm).mono fun e w' ⟨y2, he, hy2, hb⟩ => ⟨_, he, regrown_of_below (hbW.trans (hb.mono hbW.size)), y2, rfl, hy2.low hbW.size⟩)
  · intro v _
    simp only [List.append, List.drop_succ_cons, List.drop_zero]
    have hst : ∀ {W w' : World} {u : Value}, (∃ p : Regrown, W = Go.Sort.grow (redrawn w6 p.d) p.os) → (∃ y2 : VT, u = .agg y2.c ∧ Cop w6.heap.size y y2 W) → Below W.heap.size W w' → (∃ p : Regrown, w' = Go.Sort.grow (redrawn w6 p.d) p.os) ∧ (∃ y2 : VT, u = .agg y2.c ∧ Cop w6.heap.size y y2 w') := by
      rintro W w' u ⟨p, rfl⟩ ⟨y2, e, hy2⟩ hb
      have hbW := below_regrown w6 p.d p.os
      exact ⟨regrown_of_below (hbW.trans (hb.mono hbW.size)), y2, e, hy2.step hb⟩
    have mv : ∀ {W : World} {u : VT}, (∃ p : Regrown, W = Go.Sort.grow (redrawn w6 p.d) p.os) → VT.In w6.heap.size w6 u → VT.In W.heap.size W u := by
      rintro W u ⟨p, rfl⟩ h
      have hbW := below_regrown w6 p.d p.os
      exact (h.move hbW).up hbW.size
    simp only [Act.put, List.setIfInBounds_toArray, List.set_cons_zero, List.set_cons_succ]
    refine q_call rfl (f := 16) #[.tmp 135, .tmp 137] #[27, 27] rfl Tryz.func16 (by kernel_rfl) rfl #[.agg y.c, v] (two_args rfl rfl) (v := .bool true) ?_ ?_
    · rintro W ⟨hC, y3, rfl, hy3⟩
      have h := vSame_any y y3 W (mv hC YI6.out) hy3.tin
      rw [sameV_symm hy3.same] at h
      exact h.mono fun e w' ⟨he, hb⟩ => ⟨he, hst hC ⟨y3, rfl, hy3⟩ hb⟩
    simp only [Act.put, List.setIfInBounds_toArray, List.set_cons_zero, List.set_cons_succ]
    refine q_pick rfl (.tmp 134) (.tmp 138) (.const (.bool false)) rfl true rfl (v := .bool true) rfl ?_
    simp only [Act.put, List.setIfInBounds_toArray, List.set_cons_zero, List.set_cons_succ]
    refine q_move rfl (.tmp 139) (.inl rfl) (v := .bool true) rfl ?_
    simp only [Act.put, List.setIfInBounds_toArray, List.set_cons_zero, List.set_cons_succ]
    refine BigFrame.wpQuiet_want rfl (fun K hK => ?_); refine quiet_load_row 27 (.tmp 3) rfl _ rfl 27 _ (0, 0) _ (fun W hW => row_regrown R3.out W hW.1) Tryz.underlying27 rfl (VT.val_info y) ?_; refine hK _ ?_; clear hK K
    simp only [Act.put, List.setIfInBounds_toArray, List.set_cons_zero, List.set_cons_succ]
    refine BigFrame.wpQuiet_want rfl (fun K hK => ?_); refine quiet_load_row 27 (.tmp 3) rfl _ rfl 27 _ (0, 0) _ (fun W hW => row_regrown R3.out W hW.1) Tryz.underlying27 rfl (VT.val_info y) ?_; refine hK _ ?_; clear hK K
    simp only [Act.put, List.setIfInBounds_toArray, List.set_cons_zero, List.set_cons_succ]
    refine q_call rfl (f := 15) #[.tmp 141, .tmp 142] #[27, 27] rfl Tryz.func15 (by kernel_rfl) rfl #[.agg y.c, .agg y.c] (two_args rfl rfl) (v := .bool true) ?_ ?_
    · rintro W ⟨hC, hR⟩
      have h := vEqual_any y y W (mv hC YI6.out) (mv hC YI6.out)
      rw [show equalV y y = true from sameB_of (sameV_self y)] at h
      exact h.mono fun e w' ⟨he, hb⟩ => ⟨he, hst hC hR hb⟩
    simp only [Act.put, List.setIfInBounds_toArray, List.set_cons_zero, List.set_cons_succ]
    refine q_pick rfl (.tmp 140) (.tmp 143) (.const (.bool false)) rfl true rfl (v := .bool true) rfl ?_
    simp only [Act.put, List.setIfInBounds_toArray, List.set_cons_zero, List.set_cons_succ]
    refine q_move rfl (.tmp 144) (.inl rfl) (v := .bool true) rfl ?_
    simp only [Act.put, List.setIfInBounds_toArray, List.set_cons_zero, List.set_cons_succ]
    refine BigFrame.wpQuiet_want rfl (fun K hK => ?_); refine quiet_load_row 27 (.tmp 3) rfl _ rfl 27 _ (0, 0) _ (fun W hW => row_regrown R3.out W hW.1) Tryz.underlying27 rfl (VT.val_info y) ?_; refine hK _ ?_; clear hK K
    simp only [Act.put, List.setIfInBounds_toArray, List.set_cons_zero, List.set_cons_succ]
    refine BigFrame.wpQuiet_want rfl (fun K hK => ?_); refine quiet_load_row 27 (.tmp 9) rfl _ rfl 27 _ (0, 0) _ (fun W hW => row_regrown R9.out W hW.1) Tryz.underlying27 rfl (VT.val_info yl) ?_; refine hK _ ?_; clear hK K
    simp only [Act.put, List.setIfInBounds_toArray, List.set_cons_zero, List.set_cons_succ]
    refine q_call rfl (f := 16) #[.tmp 146, .tmp 147] #[27, 27] rfl Tryz.func16 (by kernel_rfl) rfl #[.agg y.c, .agg yl.c] (two_args rfl rfl) (v := .bool false) ?_ ?_
    · rintro W ⟨hC, hR⟩
      have h := vSame_any y yl W (mv hC YI6.out) (mv hC LI6.out)
      rw [show sameV y yl = false from by
        cases hs : sameV y yl with
        | false => rfl
        | true =>
          have := (sameV_parts hs).1
          rw [hY.out.k, HL.out.k] at this
          cases this] at h
      exact h.mono fun e w' ⟨he, hb⟩ => ⟨he, hst hC hR hb⟩
    simp only [Act.put, List.setIfInBounds_toArray, List.set_cons_zero, List.set_cons_succ]
    refine q_not rfl _ (.tmp 148) rfl false rfl ?_
    simp only [Act.put, List.setIfInBounds_toArray, List.set_cons_zero, List.set_cons_succ]
    refine q_pick rfl (.tmp 145) (.tmp 149) (.const (.bool false)) rfl true rfl (v := .bool true) rfl ?_
    simp only [Act.put, List.setIfInBounds_toArray, List.set_cons_zero, List.set_cons_succ]
    refine q_move rfl (.tmp 150) (.inr rfl) (v := .bool true) rfl ?_
    simp only [Act.put, List.setIfInBounds_toArray, List.set_cons_zero, List.set_cons_succ]
    refine wpQuiet_nil ?_
    rintro W ⟨p, rfl⟩ _
    have hbW := below_regrown w6 p.d p.os
    have hEnd := Lib.hid (B1.out.trans ((B6.out.trans (hbW.mono B6.out.size)).mono B1.out.size))
    generalize Go.Sort.grow (redrawn w6 p.d) p.os = wz at *
    clear hst mv hbW
    go_wp2_with go_skip
    go_ret
    exact ⟨rfl, hEnd.out⟩
end Go.Proofs.YtcpmehppfccihaaGreatDoor
