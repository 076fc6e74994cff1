/-
  Trees alike are judged, counted, measured alike. No condition.
  value.Equal tells what is written here, for all trees. No condition.
  Equal goes both ways, and on; plain. No condition.
-/
import Derived.Test.YtcpmehppfccihaaGreatDoorJ5
import Derived.Test.YtcpmehppfccihaaGreatDoorJ7
import Derived.Test.YtcpmehppfccihaaGreatDoorVSizeJ
import Derived.Test.YtcpmehppfccihaaGreatDoorSameNJ
import Derived.Test.YtcpmehppfccihaaGreatDoorDecCJ
import Derived.Test.YtcpmehppfccihaaGreatDoorDecOJ
namespace Go.Proofs.YtcpmehppfccihaaGreatDoor
set_option linter.unusedVariables false
set_option linter.unusedSimpArgs false
theorem ba_eq {a b : ByteArray} (h : a.toList = b.toList) : a = b := by
  rw [Lib.toList_data, Lib.toList_data] at h
  cases a with | mk a => cases b with | mk b => exact congrArg ByteArray.mk (Array.toList_inj.1 h)
/-- What likeness says, strings as they are. -/
theorem sameV_parts {a b : VT} (h : sameV a b = true) : a.k = b.k ∧ a.n = b.n ∧ a.ln = b.ln ∧ a.mn = b.mn ∧ a.s = b.s ∧ (∀ i, i < a.ln → sameV (a.lt i) (b.lt i) = true) ∧ (∀ i, i < a.mn → a.key i = b.key i ∧ sameV (a.mt i) (b.mt i) = true) := by
  obtain ⟨h1, h2, h3, h4, h5, h6, h7⟩ := (sameV_iff a b).1 h
  exact ⟨h1, h2, h3, h4, ba_eq h5, h6, fun i hi => ⟨ba_eq (h7 i hi).1, (h7 i hi).2⟩⟩
theorem VT.by_parts {p : VT → Prop} (key : ∀ t : VT, (∀ i, i < t.ln → p (t.lt i)) → (∀ i, i < t.mn → p (t.mt i)) → p t) (t : VT) : p t := by
  induction t with
  | no => exact key .no (fun i hi => absurd hi (Nat.not_lt_zero i)) (fun i hi => absurd hi (Nat.not_lt_zero i))
  | mk k n s lA lb lo ln lc lt mA mb mo mn mc ky mt ihl ihm => exact key (.mk k n s lA lb lo ln lc lt mA mb mo mn mc ky mt) (fun i _ => ihl i) (fun i _ => ihm i)
theorem sumTo_congr {f g : Nat → Int} {n : Nat} {a : Int} (h : ∀ i, i < n → f i = g i) : sumTo f n a = sumTo g n a := by
  induction n with
  | zero => rfl
  | succ n ih => rw [sumTo, sumTo, ih (fun i hi => h i (by omega)), h n (by omega)]
theorem mostTo_congr {f g : Nat → Int} {n : Nat} {a : Int} (h : ∀ i, i < n → f i = g i) : mostTo f n a = mostTo g n a := by
  induction n with
  | zero => rfl
  | succ n ih => rw [mostTo, mostTo, ih (fun i hi => h i (by omega)), h n (by omega)]
theorem sizeW_same {a : VT} : ∀ {b : VT}, sameV a b = true → sizeW a = sizeW b := by
  refine VT.by_parts (p := fun a => ∀ {b : VT}, sameV a b = true → sizeW a = sizeW b) (fun a ihl ihm b h => ?_) a
  obtain ⟨h1, h2, h3, h4, h5, h6, h7⟩ := sameV_parts h
  rw [sizeW_eq a, sizeW_eq b, ← h3, ← h4, sumTo_congr (fun i hi => ihl i hi (h6 i hi)), sumTo_congr (fun i hi => ihm i hi (h7 i hi).2)]
theorem deepW_same {a : VT} : ∀ {b : VT}, sameV a b = true → deepW a = deepW b := by
  refine VT.by_parts (p := fun a => ∀ {b : VT}, sameV a b = true → deepW a = deepW b) (fun a ihl ihm b h => ?_) a
  obtain ⟨h1, h2, h3, h4, h5, h6, h7⟩ := sameV_parts h
  rw [deepW_eq a, deepW_eq b, ← h3, ← h4, mostTo_congr (fun i hi => ihl i hi (h6 i hi)), mostTo_congr (fun i hi => ihm i hi (h7 i hi).2)]
theorem runTo_congr {p q : Nat → Int → Bool × Int} {n : Nat} {m : Int} (h : ∀ i, i < n → ∀ m, p i m = q i m) : runTo p n m = runTo q n m := by
  induction n with
  | zero => rfl
  | succ n ih => rw [runTo, runTo, ih (fun i hi => h i (by omega)), h n (by omega)]
theorem judgeT_same {ob : VT → Bool} {letC : ByteArray → Int} (hob : ∀ a b, sameV a b = true → ob a = ob b) {a : VT} : ∀ {b : VT}, sameV a b = true → ∀ deep n0, judgeT ob letC a deep n0 = judgeT ob letC b deep n0 := by
  refine VT.by_parts (p := fun a => ∀ {b : VT}, sameV a b = true → ∀ deep n0, judgeT ob letC a deep n0 = judgeT ob letC b deep n0) (fun a ihl ihm b h deep n0 => ?_) a
  obtain ⟨h1, h2, h3, h4, h5, h6, h7⟩ := sameV_parts h
  have e1 : ∀ m, runTo (judgeL ob letC a deep) a.ln m = runTo (judgeL ob letC b deep) a.ln m := fun m => runTo_congr (fun i hi m => ihl i hi (h6 i hi) _ _)
  have e2 : ∀ m, runTo (judgeM ob letC a deep) a.mn m = runTo (judgeM ob letC b deep) a.mn m := fun m => runTo_congr (fun i hi m => by
    unfold judgeM
    rw [(h7 i hi).1, ihm i hi (h7 i hi).2]
    rcases Nat.eq_zero_or_pos i with h0 | h0
    · subst h0; simp
    · rw [(h7 (i - 1) (by omega)).1])
  rw [judgeT_eq ob letC a, judgeT_eq ob letC b, hob a b h, ← h3, ← h4, e1, e2]
theorem ownV_same (a b : VT) (h : sameV a b = true) : ownV a = ownV b := by
  obtain ⟨h1, h2, h3, h4, h5, h6, h7⟩ := sameV_parts h
  unfold ownV ownB
  rw [h1, h2, h3, h4, h5]
theorem goodT_same {a b : VT} (h : sameV a b = true) : goodT a = goodT b := by
  unfold goodT
  rw [judgeT_same ownV_same h]
theorem sameB_of {num : ByteArray → ByteArray → Bool} {a : VT} : ∀ {b : VT}, sameV a b = true → sameB num a b = true := by
  refine VT.by_parts (p := fun a => ∀ {b : VT}, sameV a b = true → sameB num a b = true) (fun a ihl ihm b h => ?_) a
  obtain ⟨h1, h2, h3, h4, h5, h6, h7⟩ := sameV_parts h
  rw [sameB_eq]
  simp only [Bool.and_eq_true, beq_iff_eq, allTo_iff, Bool.or_eq_true]
  exact ⟨⟨⟨⟨⟨⟨h1, h2⟩, h3⟩, h4⟩, Or.inl (by rw [h5])⟩, fun i hi => ihl i hi (h6 i hi)⟩, fun i hi => ⟨by rw [(h7 i hi).1], ihm i hi (h7 i hi).2⟩⟩
theorem sameV_comm (a b : VT) : sameV a b = sameV b a := by
  cases h : sameV a b with
  | true => exact (sameV_symm h).symm
  | false =>
    cases h2 : sameV b a with
    | true => rw [sameV_symm h2] at h; cases h
    | false => rfl
end Go.Proofs.YtcpmehppfccihaaGreatDoor
namespace Go.Proofs.YtcpmehppfccihaaGreatDoor
open Go.RowKit
set_option linter.unusedVariables false
set_option linter.unusedSimpArgs false
/-- Two texts say the same number. -/
def eqv (x y : ByteArray) : Bool := cmpN x.data.toList y.data.toList == 0
def equalV (a b : VT) : Bool := sameB eqv a b
theorem eqf_any (x y : ByteArray) (w : World) : Calls Tryz.prog 48 #[.string x, .string y] w fun e w' => e = .returned (.bool (eqv x y)) ∧ Below w.heap.size w w' := by
  have H := Lib.hid (fun W => cmp_any x y W)
  unfold eqv
  generalize cmpN x.data.toList y.data.toList = n at *
  go_enter Tryz.func48, Tryz.ntmps48
  go_wp2_with (first | go_skip | (go_at_call 49; with_reducible (refine (H.out _).mono ?_); rintro e wn ⟨rfl, hbn⟩))
  go_ret
  exact ⟨rfl, hbn⟩
theorem equal_v (a : VT) : SameOk eqv 48 (fun _ => True) a := by
  have hnum : ∀ (x y : ByteArray) (W : World), True → x.size ≤ 9223372036854775807 → y.size ≤ 9223372036854775807 → Calls Tryz.prog 48 #[.string x, .string y] W fun e w' => e = .returned (.bool (eqv x y)) ∧ Below W.heap.size W w' := fun x y W _ _ _ => eqf_any x y W
  have key : ∀ a : VT, (∀ i, i < a.ln → SameOk eqv 48 (fun _ => True) (a.lt i)) → (∀ i, i < a.mn → SameOk eqv 48 (fun _ => True) (a.mt i)) → SameOk eqv 48 (fun _ => True) a := by
    intro a ihl ihm b w hw ha hb
    cases h : (a.k == b.k && a.n == b.n && a.ln == b.ln && a.mn == b.mn)
    · exact same_no eqv 48 Tryz.f48 Tryz.func48 (by kernel_rfl) (by kernel_rfl) (fun _ => True) (fun _ _ _ _ => trivial) hnum a b w h
    cases hs : (a.s.toList == b.s.toList)
    · cases h5 : (a.k == 3)
      · exact same_txt eqv 48 Tryz.f48 Tryz.func48 (by kernel_rfl) (by kernel_rfl) (fun _ => True) (fun _ _ _ _ => trivial) hnum a b w hw ha hb h hs (by rw [h5]; rfl)
      cases h6 : eqv a.s b.s
      · exact same_txt eqv 48 Tryz.f48 Tryz.func48 (by kernel_rfl) (by kernel_rfl) (fun _ => True) (fun _ _ _ _ => trivial) hnum a b w hw ha hb h hs (by rw [h5, h6]; rfl)
      · exact same_gn eqv 48 Tryz.f48 Tryz.func48 (by kernel_rfl) (by kernel_rfl) (fun _ => True) (fun _ _ _ _ => trivial) hnum a b w hw ha hb ihl ihm h hs h5 h6
    · exact same_go eqv 48 Tryz.f48 Tryz.func48 (by kernel_rfl) (by kernel_rfl) (fun _ => True) (fun _ _ _ _ => trivial) hnum a b w hw ha hb ihl ihm h hs
  induction a with
  | no => exact key .no (fun i hi => absurd hi (Nat.not_lt_zero i)) (fun i hi => absurd hi (Nat.not_lt_zero i))
  | mk k n s lA lb lo ln lc lt mA mb mo mn mc ky mt ihl ihm => exact key _ (fun i _ => ihl i) (fun i _ => ihm i)
set_option maxHeartbeats 1000000 in
theorem vEqual_any (a b : VT) (w : World) (ha : VT.In w.heap.size w a) (hb : VT.In w.heap.size w b) : Calls Tryz.prog 15 #[.agg a.c, .agg b.c] w fun e w' => e = .returned (.bool (equalV a b)) ∧ Below w.heap.size w w' := by
  have H := Lib.hid (fun (W : World) (hW : Below w.heap.size w W) => equal_v a b W trivial ((ha.move hW).up hW.size) ((hb.move hW).up hW.size))
  have hS0 : Sees w ((w.alloc (Obj.cells a.c 27)).alloc (Obj.cells b.c 27)) [(w.heap.size, Obj.cells a.c 27), (w.heap.size + 1, Obj.cells b.c 27)] := by
    have := ((Sees.start w).alloc (Obj.cells a.c 27)).alloc (Obj.cells b.c 27)
    simpa using this
  clear ha hb
  go_enter Tryz.func15, Tryz.ntmps15
  go_wp2_with (first | go_skip | (refine wpList_load_row' rfl 27 (.tmp 2) rfl _ rfl 27 _ (0, 0) _ hS0.g0 Tryz.underlying27 rfl (VT.val_info _) ?_) | (refine wpList_load_row' rfl 27 (.tmp 3) rfl _ rfl 27 _ (0, 0) _ hS0.g1 Tryz.underlying27 rfl (VT.val_info _) ?_) | (go_at_call 47; with_reducible (refine (H.out _ hS0.below).mono ?_); rintro e w1 ⟨rfl, hb1⟩))
  go_ret
  exact ⟨ret_bool rfl, (hS0.step hb1).below⟩
end Go.Proofs.YtcpmehppfccihaaGreatDoor
namespace Go.Proofs.YtcpmehppfccihaaGreatDoor
set_option linter.unusedVariables false
set_option linter.unusedSimpArgs false
theorem eqv_symm {x y : ByteArray} (h : eqv x y = true) : eqv y x = true := by
  unfold eqv at *
  rw [cmp_anti]
  simp only [beq_iff_eq] at *
  omega
theorem eqv_trans {x y z : ByteArray} (h : eqv x y = true) (k : eqv y z = true) : eqv x z = true := by
  unfold eqv at *
  simp only [beq_iff_eq] at *
  exact cmp_eqs h k
theorem eqv_self (x : ByteArray) : eqv x x = true := by
  unfold eqv
  simp only [beq_iff_eq]
  exact cmp_self0 _
theorem sameB_iff (num : ByteArray → ByteArray → Bool) (a b : VT) : sameB num a b = true ↔ a.k = b.k ∧ a.n = b.n ∧ a.ln = b.ln ∧ a.mn = b.mn ∧ (a.s = b.s ∨ a.k = 3 ∧ num a.s b.s = true) ∧ (∀ i, i < a.ln → sameB num (a.lt i) (b.lt i) = true) ∧ (∀ i, i < a.mn → a.key i = b.key i ∧ sameB num (a.mt i) (b.mt i) = true) := by
  rw [sameB_eq]
  simp only [Bool.and_eq_true, beq_iff_eq, allTo_iff, Bool.or_eq_true]
  constructor
  · rintro ⟨⟨⟨⟨⟨⟨h1, h2⟩, h3⟩, h4⟩, h5⟩, h6⟩, h7⟩
    exact ⟨h1, h2, h3, h4, h5.imp ba_eq id, h6, fun i hi => ⟨ba_eq (h7 i hi).1, (h7 i hi).2⟩⟩
  · rintro ⟨h1, h2, h3, h4, h5, h6, h7⟩
    exact ⟨⟨⟨⟨⟨⟨h1, h2⟩, h3⟩, h4⟩, h5.imp (fun h => by rw [h]) id⟩, h6⟩, fun i hi => ⟨by rw [(h7 i hi).1], (h7 i hi).2⟩⟩
theorem equalV_symm {a : VT} : ∀ {b : VT}, equalV a b = true → equalV b a = true := by
  refine VT.by_parts (p := fun a => ∀ {b : VT}, equalV a b = true → equalV b a = true) (fun a ihl ihm b h => ?_) a
  unfold equalV at *
  rw [sameB_iff] at h ⊢
  obtain ⟨h1, h2, h3, h4, h5, h6, h7⟩ := h
  exact ⟨h1.symm, h2.symm, h3.symm, h4.symm, h5.imp Eq.symm (fun ⟨p, q⟩ => ⟨by rw [← h1]; exact p, eqv_symm q⟩), fun i hi => ihl i (by omega) (h6 i (by omega)), fun i hi => ⟨(h7 i (by omega)).1.symm, ihm i (by omega) (h7 i (by omega)).2⟩⟩
theorem equalV_comm (a b : VT) : equalV a b = equalV b a := by
  cases h : equalV a b with
  | true => exact (equalV_symm h).symm
  | false =>
    cases h2 : equalV b a with
    | true => rw [equalV_symm h2] at h; cases h
    | false => rfl
theorem equalV_trans {a : VT} : ∀ {b c : VT}, equalV a b = true → equalV b c = true → equalV a c = true := by
  refine VT.by_parts (p := fun a => ∀ {b c : VT}, equalV a b = true → equalV b c = true → equalV a c = true) (fun a ihl ihm b c h k => ?_) a
  unfold equalV at *
  rw [sameB_iff] at h k ⊢
  obtain ⟨h1, h2, h3, h4, h5, h6, h7⟩ := h
  obtain ⟨k1, k2, k3, k4, k5, k6, k7⟩ := k
  refine ⟨h1.trans k1, h2.trans k2, h3.trans k3, h4.trans k4, ?_, fun i hi => ihl i hi (h6 i hi) (k6 i (by omega)), fun i hi => ⟨(h7 i hi).1.trans (k7 i (by omega)).1, ihm i hi (h7 i hi).2 (k7 i (by omega)).2⟩⟩
  rcases h5 with h5 | ⟨h5, h5'⟩
  · rcases k5 with k5 | ⟨k5, k5'⟩
    · exact .inl (h5.trans k5)
    · exact .inr ⟨by rw [h1]; exact k5, by rw [h5]; exact k5'⟩
  · rcases k5 with k5 | ⟨k5, k5'⟩
    · exact .inr ⟨h5, by rw [← k5]; exact h5'⟩
    · exact .inr ⟨h5, eqv_trans h5' k5'⟩
end Go.Proofs.YtcpmehppfccihaaGreatDoor
