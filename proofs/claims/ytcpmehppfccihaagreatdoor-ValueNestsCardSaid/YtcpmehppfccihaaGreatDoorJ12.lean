/-
  Trees alike are judged, counted, measured alike. No condition.
  Lists in lists, and a list of many: how deep, how many, what may be; plain. No condition.
-/
import Derived.Test.YtcpmehppfccihaaGreatDoorJ5
import Derived.Test.YtcpmehppfccihaaGreatDoorJ7
import Derived.Test.YtcpmehppfccihaaGreatDoorVSizeJ
import Derived.Test.YtcpmehppfccihaaGreatDoorEnvJ
namespace Go.Proofs.YtcpmehppfccihaaGreatDoor
set_option linter.unusedVariables false
set_option linter.unusedSimpArgs false
theorem ba_eq {a b : ByteArray} (h : a.toList = b.toList) : a = b := by
  rw [Lib.toList_data, Lib.toList_data] at h
  cases a with | mk a => cases b with | mk b => exact congrArg ByteArray.mk (Array.toList_inj.1 h)
/-- What likeness says, strings as they are. -/
theorem sameV_parts {a b : VT} (h : sameV a b = true) : a.k = b.k ∧ a.n = b.n ∧ a.ln = b.ln ∧ a.mn = b.mn ∧ a.s = b.s ∧ (∀ i, i < a.ln → sameV (a.lt i) (b.lt i) = true) ∧ (∀ i, i < a.mn → a.key i = b.key i ∧ sameV (a.mt i) (b.mt i) = true) := by
  obtain ⟨h1, h2, h3, h4, h5, h6, h7⟩ := (sameV_iff a b).1 h
  exact ⟨h1, h2, h3, h4, ba_eq h5, h6, fun i hi => ⟨ba_eq (h7 i hi).1, (h7 i hi).2⟩⟩
theorem VT.by_parts {p : VT → Prop} (key : ∀ t : VT, (∀ i, i < t.ln → p (t.lt i)) → (∀ i, i < t.mn → p (t.mt i)) → p t) (t : VT) : p t := by
  induction t with
  | no => exact key .no (fun i hi => absurd hi (Nat.not_lt_zero i)) (fun i hi => absurd hi (Nat.not_lt_zero i))
  | mk k n s lA lb lo ln lc lt mA mb mo mn mc ky mt ihl ihm => exact key (.mk k n s lA lb lo ln lc lt mA mb mo mn mc ky mt) (fun i _ => ihl i) (fun i _ => ihm i)
theorem sumTo_congr {f g : Nat → Int} {n : Nat} {a : Int} (h : ∀ i, i < n → f i = g i) : sumTo f n a = sumTo g n a := by
  induction n with
  | zero => rfl
  | succ n ih => rw [sumTo, sumTo, ih (fun i hi => h i (by omega)), h n (by omega)]
theorem mostTo_congr {f g : Nat → Int} {n : Nat} {a : Int} (h : ∀ i, i < n → f i = g i) : mostTo f n a = mostTo g n a := by
  induction n with
  | zero => rfl
  | succ n ih => rw [mostTo, mostTo, ih (fun i hi => h i (by omega)), h n (by omega)]
theorem sizeW_same {a : VT} : ∀ {b : VT}, sameV a b = true → sizeW a = sizeW b := by
  refine VT.by_parts (p := fun a => ∀ {b : VT}, sameV a b = true → sizeW a = sizeW b) (fun a ihl ihm b h => ?_) a
  obtain ⟨h1, h2, h3, h4, h5, h6, h7⟩ := sameV_parts h
  rw [sizeW_eq a, sizeW_eq b, ← h3, ← h4, sumTo_congr (fun i hi => ihl i hi (h6 i hi)), sumTo_congr (fun i hi => ihm i hi (h7 i hi).2)]
theorem deepW_same {a : VT} : ∀ {b : VT}, sameV a b = true → deepW a = deepW b := by
  refine VT.by_parts (p := fun a => ∀ {b : VT}, sameV a b = true → deepW a = deepW b) (fun a ihl ihm b h => ?_) a
  obtain ⟨h1, h2, h3, h4, h5, h6, h7⟩ := sameV_parts h
  rw [deepW_eq a, deepW_eq b, ← h3, ← h4, mostTo_congr (fun i hi => ihl i hi (h6 i hi)), mostTo_congr (fun i hi => ihm i hi (h7 i hi).2)]
theorem runTo_congr {p q : Nat → Int → Bool × Int} {n : Nat} {m : Int} (h : ∀ i, i < n → ∀ m, p i m = q i m) : runTo p n m = runTo q n m := by
  induction n with
  | zero => rfl
  | succ n ih => rw [runTo, runTo, ih (fun i hi => h i (by omega)), h n (by omega)]
theorem judgeT_same {ob : VT → Bool} {letC : ByteArray → Int} (hob : ∀ a b, sameV a b = true → ob a = ob b) {a : VT} : ∀ {b : VT}, sameV a b = true → ∀ deep n0, judgeT ob letC a deep n0 = judgeT ob letC b deep n0 := by
  refine VT.by_parts (p := fun a => ∀ {b : VT}, sameV a b = true → ∀ deep n0, judgeT ob letC a deep n0 = judgeT ob letC b deep n0) (fun a ihl ihm b h deep n0 => ?_) a
  obtain ⟨h1, h2, h3, h4, h5, h6, h7⟩ := sameV_parts h
  have e1 : ∀ m, runTo (judgeL ob letC a deep) a.ln m = runTo (judgeL ob letC b deep) a.ln m := fun m => runTo_congr (fun i hi m => ihl i hi (h6 i hi) _ _)
  have e2 : ∀ m, runTo (judgeM ob letC a deep) a.mn m = runTo (judgeM ob letC b deep) a.mn m := fun m => runTo_congr (fun i hi m => by
    unfold judgeM
    rw [(h7 i hi).1, ihm i hi (h7 i hi).2]
    rcases Nat.eq_zero_or_pos i with h0 | h0
    · subst h0; simp
    · rw [(h7 (i - 1) (by omega)).1])
  rw [judgeT_eq ob letC a, judgeT_eq ob letC b, hob a b h, ← h3, ← h4, e1, e2]
theorem ownV_same (a b : VT) (h : sameV a b = true) : ownV a = ownV b := by
  obtain ⟨h1, h2, h3, h4, h5, h6, h7⟩ := sameV_parts h
  unfold ownV ownB
  rw [h1, h2, h3, h4, h5]
theorem goodT_same {a b : VT} (h : sameV a b = true) : goodT a = goodT b := by
  unfold goodT
  rw [judgeT_same ownV_same h]
theorem sameB_of {num : ByteArray → ByteArray → Bool} {a : VT} : ∀ {b : VT}, sameV a b = true → sameB num a b = true := by
  refine VT.by_parts (p := fun a => ∀ {b : VT}, sameV a b = true → sameB num a b = true) (fun a ihl ihm b h => ?_) a
  obtain ⟨h1, h2, h3, h4, h5, h6, h7⟩ := sameV_parts h
  rw [sameB_eq]
  simp only [Bool.and_eq_true, beq_iff_eq, allTo_iff, Bool.or_eq_true]
  exact ⟨⟨⟨⟨⟨⟨h1, h2⟩, h3⟩, h4⟩, Or.inl (by rw [h5])⟩, fun i hi => ihl i hi (h6 i hi)⟩, fun i hi => ⟨by rw [(h7 i hi).1], ihm i hi (h7 i hi).2⟩⟩
theorem sameV_comm (a b : VT) : sameV a b = sameV b a := by
  cases h : sameV a b with
  | true => exact (sameV_symm h).symm
  | false =>
    cases h2 : sameV b a with
    | true => rw [sameV_symm h2] at h; cases h
    | false => rfl
end Go.Proofs.YtcpmehppfccihaaGreatDoor
namespace Go.Proofs.YtcpmehppfccihaaGreatDoor
open Go.RowKit
set_option linter.unusedVariables false
set_option linter.unusedSimpArgs false
theorem sm_same {a : VT} : ∀ {b : VT}, sameV a b = true → VT.Sm b → VT.Sm a := by
  refine VT.by_parts (p := fun a => ∀ {b : VT}, sameV a b = true → VT.Sm b → VT.Sm a) (fun a ihl ihm b h hs => ?_) a
  obtain ⟨h1, h2, h3, h4, h5, h6, h7⟩ := sameV_parts h
  exact .mk (by rw [h3]; exact hs.l0) (by rw [h4]; exact hs.m0) (fun i hi => ihl i hi (h6 i hi) (hs.l i (by omega))) (fun i hi => ihm i hi (h7 i hi).2 (hs.m i (by omega)))
/-- So many lists, each in the next, about nothing. -/
def nest : Nat → VT
  | 0 => .no
  | k + 1 => listT none 0 0 1 1 (fun _ => nest k)
theorem nest_sm (k : Nat) : VT.Sm (nest k) := by
  induction k with
  | zero => exact VT.no_sm
  | succ k ih => exact list_sm (by decide) (fun _ _ => ih)
theorem nest_next {A : Option Addr} {b c k : Nat} {x y : VT} (h : sameV y (listT A b 0 1 c (fun _ => x)) = true) (hx : sameV x (nest k) = true) : sameV y (nest (k + 1)) = true := by
  refine sameV_trans h ?_
  rw [sameV_iff]
  exact ⟨rfl, rfl, rfl, rfl, rfl, fun _ _ => hx, fun i hi => absurd hi (Nat.not_lt_zero i)⟩
theorem nest_all : (List.range 40).all (fun k => goodT (nest k) == decide (k + 1 ≤ 32) && sizeW (nest k) == (k : Int) + 1 && deepW (nest k) == (k : Int) + 1) = true := by kernel_rfl
theorem nest_is {k : Nat} (hk : k < 40) : goodT (nest k) = decide (k + 1 ≤ 32) ∧ sizeW (nest k) = (k : Int) + 1 ∧ deepW (nest k) = (k : Int) + 1 := by
  have := List.all_eq_true.1 nest_all k (List.mem_range.2 hk)
  simp only [Bool.and_eq_true, beq_iff_eq] at this
  exact ⟨this.1.1, this.1.2, this.2⟩
/-- A list of so many, each nothing. -/
def wideT (b n : Nat) : VT := listT (some ⟨b, 0, none⟩) b 0 n n (fun _ => .no)
theorem wide_run (d : Int) (hd : d + 1 ≤ 32) (k : Nat) (hk : k + 1 ≤ 4096) : runTo (fun i m => judgeT ownV letC .no (d + 1) m) k 1 = (true, (k : Int) + 1) := by
  induction k with
  | zero => rfl
  | succ k ih =>
    have hno : ownV .no = true := by kernel_rfl
    rw [runTo, ih (by omega)]
    simp only [if_true, judgeT, hno]
    have e1 : decide ((4096 : Int) < (k : Int) + 1 + 1) = false := by simp; omega
    have e2 : decide ((32 : Int) < d + 1) = false := by simp; omega
    rw [e1, e2]
    simp
theorem wide_good (b n : Nat) : goodT (wideT b n) = decide (n + 1 ≤ 4096) := by
  have ho : ownV (wideT b n) = true := by
    unfold ownV ownB wideT listT
    simp [VT.k, VT.n, VT.s, VT.mn, VT.ln, Lib.toList_data]
  unfold goodT
  rw [judgeT_eq, ho]
  have e : (decide ((4096 : Int) < 0 + 1) || decide ((32 : Int) < 1) || !true) = false := by decide
  rw [if_neg (by rw [e]; decide)]
  show (if (runTo (fun i m => judgeT ownV letC .no (1 + 1) m) n (0 + 1)).1 = true then runTo (judgeM ownV letC (wideT b n) 1) 0 _ else (false, _)).1 = _
  rw [show (0 : Int) + 1 = 1 by omega]
  by_cases h : n + 1 ≤ 4096
  · rw [wide_run 1 (by omega) n h, decide_eq_true h]
    rfl
  · rw [decide_eq_false h]
    have hno : ownV .no = true := by kernel_rfl
    have h0 := wide_run 1 (by omega) 4095 (by omega)
    have hstop : runTo (fun i m => judgeT ownV letC .no (1 + 1) m) n 1 = (false, 4097) := by
      refine runTo_stop (i := 4095) (by omega) (by rw [h0]) ?_
      rw [h0]
      simp only [judgeT]
      rw [if_pos (by simp)]
      simp
    rw [hstop]
    rfl
theorem wide_size (b n : Nat) (hn : n ≤ 100000) : sizeW (wideT b n) = (n : Int) + 1 := by
  rw [sizeW_eq]
  show sumTo _ 0 (sumTo (fun _ => sizeW .no) n 1) = _
  show sumTo (fun _ => (1 : Int)) n 1 = _
  have key : ∀ k : Nat, k ≤ 100000 → sumTo (fun _ => (1 : Int)) k 1 = (k : Int) + 1 := by
    intro k
    induction k with
    | zero => intro _; rfl
    | succ k ih =>
      intro hk
      rw [sumTo, ih (by omega)]
      unfold wrap64
      omega
  exact key n hn
end Go.Proofs.YtcpmehppfccihaaGreatDoor
