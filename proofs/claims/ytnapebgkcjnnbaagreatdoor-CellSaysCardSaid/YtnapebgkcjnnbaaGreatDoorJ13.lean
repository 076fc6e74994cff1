/-
  The reference's Stamp tells what value's stamp tells, for all strings. No condition.
  The reference's Value tells what is written here, for all trees. Condition: what plain tells is known.
  value.Good and the reference's Value tell the same, for all trees: plain Lean. No condition.
  The reference's plain, Value tell what value.Good's parts tell, for all trees. No condition.
-/
import Derived.Test.YtnapebgkcjnnbaaGreatDoorJ7
import Derived.Test.YtnapebgkcjnnbaaGreatDoorJ8
import Derived.Test.YtnapebgkcjnnbaaGreatDoorJ6
import Derived.Test.YtnapebgkcjnnbaaGreatDoorRPlainWJ
import Derived.Test.YtnapebgkcjnnbaaGreatDoorRqIntJ
import Derived.Test.YtnapebgkcjnnbaaGreatDoorRqNumJ
namespace Go.Proofs.YtnapebgkcjnnbaaGreatDoor
open Go.RowKit
set_option linter.unusedVariables false
set_option linter.unusedSimpArgs false
theorem oddL_drop {l : List UInt8} {i : Nat} {c : UInt8} (h : l[i]? = some c) : oddL (l.drop i) = (oddB c || oddL (l.drop (i + 1))) := by
  obtain ⟨hi, rfl⟩ := List.getElem?_eq_some_iff.1 h
  rw [List.drop_eq_getElem_cons hi]
  rfl
theorem stamp_go (s : ByteArray) (hs : s.size ≤ 9223372036854775807) : ∀ (d k i : Nat), s.size - i ≤ d → d + 1 ≤ k → i ≤ s.size → dragomanref1_Stamp.l0 k s i = some (!(oddL (s.data.toList.drop i))) := by
  intro d
  induction d with
  | zero =>
    intro k i hd hk hi
    obtain ⟨k, rfl⟩ : ∃ m, k = m + 1 := ⟨k - 1, by omega⟩
    obtain rfl : i = s.size := by omega
    rw [dragomanref1_Stamp.l0, if_neg (by omega), List.drop_of_length_le (by rw [Lib.size_eq]; omega)]; rfl
  | succ d ih =>
    intro k i hd hk hi
    obtain ⟨k, rfl⟩ : ∃ m, k = m + 1 := ⟨k - 1, by omega⟩
    rw [dragomanref1_Stamp.l0]
    by_cases hlt : i < s.size
    · have hz : ((i : Int)).toNat < s.size := by simpa using hlt
      have hb : bt s (i : Int) = ((s[i]'hlt).toNat : Int) := (bt_at s (i : Int) hz).symm
      have hc : s.data.toList[i]? = some (s[i]'hlt) := by
        rw [List.getElem?_eq_getElem (by rw [← Lib.size_eq]; exact hlt)]; rfl
      rw [if_pos (by omega), if_pos (by omega), hb, oddL_drop hc]
      by_cases h1 : ((s[i]'hlt).toNat : Int) < 32
      · rw [if_pos h1]
        have : oddB (s[i]'hlt) = true := by unfold oddB; simp; omega
        rw [this]; rfl
      rw [if_neg h1]
      by_cases h2 : ((s[i]'hlt).toNat : Int) > 126
      · rw [if_pos h2]
        have : oddB (s[i]'hlt) = true := by unfold oddB; simp; omega
        rw [this]; rfl
      · rw [if_neg h2]
        have : oddB (s[i]'hlt) = false := by unfold oddB; simp; omega
        rw [this, show wrap64 ((i : Int) + 1) = ((i + 1 : Nat) : Int) by unfold wrap64; omega, ih k (i + 1) (by omega) (by omega) (by omega)]; rfl
    · obtain rfl : i = s.size := by omega
      rw [if_neg (by omega), List.drop_of_length_le (by rw [Lib.size_eq]; omega)]; rfl
theorem rstamp_eq (s : ByteArray) (hs : s.size ≤ 9223372036854775807) : dragomanref1_Stamp.f (s.size + 3) s = some (stampB s) := by
  unfold dragomanref1_Stamp.f stampB
  by_cases h1 : (s.size : Int) < 1
  · rw [if_pos h1, dragomanref1_Stamp.j0, if_pos rfl, decide_eq_false (show ¬ 1 ≤ s.size by omega)]; rfl
  rw [if_neg h1, dragomanref1_Stamp.j0, decide_eq_true (show 1 ≤ s.size by omega)]
  by_cases h2 : (s.size : Int) > 64
  · rw [if_pos (by simpa using h2), decide_eq_false (show ¬ s.size ≤ 64 by omega)]; rfl
  · rw [if_neg (by simpa using h2), show (0 : Int) = ((0 : Nat) : Int) from rfl, stamp_go s hs s.size _ 0 (by omega) (by omega) (by omega), decide_eq_true (show s.size ≤ 64 by omega)]
    simp
theorem rstamp_any (s : ByteArray) (w : World) (hs : s.size ≤ 9223372036854775807) : Calls Tryz.prog 26 #[.string s] w fun e w' => e = .returned (.bool (stampB s)) ∧ Below w.heap.size w w' :=
  (dragomanref1_Stamp.calls _ s _ w (rstamp_eq s hs)).mono fun _ _ ⟨he, hd⟩ => ⟨he, hd.below⟩
end Go.Proofs.YtnapebgkcjnnbaaGreatDoor
namespace Go.Proofs.YtnapebgkcjnnbaaGreatDoor
open Go.RowKit
set_option linter.unusedVariables false
set_option linter.unusedSimpArgs false
def valueB (t : VT) : Bool := !heavyB t 4096 32 && plainT t
section
variable (HP : ∀ t, PlainOk t)
include HP
set_option maxHeartbeats 1000000 in
theorem rvalue_any (t : VT) (w : World) (ht : VT.In w.heap.size w t) : Calls Tryz.prog 16 #[.agg t.c] w fun e w' => e = .returned (.bool (valueB t)) ∧ Below w.heap.size w w' := by
  have hS : Sees w (w.alloc (Obj.cells t.c 26)) [(w.heap.size, Obj.cells t.c 26)] := (Sees.start w).alloc _
  have cH := fun W (hW : Below w.heap.size w W) => heavy_any t 4096 32 W (by omega) (by omega) (by omega) (by omega) ((ht.move hW).up hW.size)
  have CP := Lib.hid (fun W (hW : Below w.heap.size w W) => HP t W ((ht.move hW).up hW.size))
  unfold valueB
  clear ht HP
  cases hv : heavyB t 4096 32
  · rw [hv] at cH
    have CH := Lib.hid cH
    clear cH hv
    go_enter Tryz.func16, Tryz.ntmps16
    go_wp2_with (first | go_skip | (refine wpList_load_row' rfl 26 (.tmp 1) rfl _ rfl 26 _ (0, 0) _ hS.g0 Tryz.underlying26 rfl (VT.val_info _) ?_) | (go_at_call 6; with_reducible (refine (CH.out _ hS.below).mono ?_); rintro e wn ⟨rfl, hbn⟩; have hS1 := hS.step hbn; clear hS hbn; have hS := hS1; clear hS1) | (go_at_call 31; with_reducible (refine (CP.out _ hS.below).mono ?_); rintro e wn ⟨rfl, hbn⟩; have hS1 := hS.step hbn; clear hS hbn; have hS := hS1; clear hS1))
    go_ret
    exact ⟨ret_bool rfl, hS.below⟩
  · rw [hv] at cH
    have CH := Lib.hid cH
    clear cH hv
    go_enter Tryz.func16, Tryz.ntmps16
    go_wp2_with (first | go_skip | (refine wpList_load_row' rfl 26 (.tmp 1) rfl _ rfl 26 _ (0, 0) _ hS.g0 Tryz.underlying26 rfl (VT.val_info _) ?_) | (go_at_call 6; with_reducible (refine (CH.out _ hS.below).mono ?_); rintro e wn ⟨rfl, hbn⟩; have hS1 := hS.step hbn; clear hS hbn; have hS := hS1; clear hS1) | (go_at_call 31; with_reducible (refine (CP.out _ hS.below).mono ?_); rintro e wn ⟨rfl, hbn⟩; have hS1 := hS.step hbn; clear hS hbn; have hS := hS1; clear hS1))
    go_ret
    exact ⟨ret_bool rfl, hS.below⟩
end
end Go.Proofs.YtnapebgkcjnnbaaGreatDoor
namespace Go.Proofs.YtnapebgkcjnnbaaGreatDoor
set_option linter.unusedVariables false
set_option linter.unusedSimpArgs false
/-- What counts up to 4096 and what counts down from it say the same. -/
def Alike (p : Bool × Int) (h : Option Int) (q : Bool) : Prop := p.1 = (h.isSome && q) ∧ ∀ m, h = some m → q = true → p.2 = 4096 - m
theorem alike_run {p : Nat → Int → Bool × Int} {h : Nat → Int → Option Int} {q : Nat → Bool} (hp : ∀ i x, Alike (p i x) (h i (4096 - x)) (q i)) (n : Int) : ∀ k, Alike (runTo p k n) (foldO h k (4096 - n)) (allTo q k) := by
  intro k
  induction k with
  | zero => exact ⟨rfl, fun m hm _ => by simp [foldO] at hm; simp [runTo]; omega⟩
  | succ k ih =>
    obtain ⟨h1, h2⟩ := ih
    rw [runTo, foldO, allTo]
    cases hf : foldO h k (4096 - n) with
    | none =>
      rw [hf] at h1
      rw [if_neg (by rw [h1]; simp)]
      exact ⟨rfl, fun m hm _ => by cases hm⟩
    | some m =>
      cases ha : allTo q k with
      | false =>
        rw [hf, ha] at h1
        rw [if_neg (by rw [h1]; simp)]
        exact ⟨by simp, fun m _ hq => by cases hq⟩
      | true =>
        rw [hf, ha] at h1
        rw [if_pos (by rw [h1]; rfl), h2 m hf ha]
        have := hp k (4096 - m)
        rw [show (4096 : Int) - (4096 - m) = m by omega] at this
        rw [Bool.true_and]
        exact this
def JudgeAlike (t : VT) : Prop := ∀ deep n0, Alike (judgeT ownV letC t deep n0) (heavyT t (33 - deep) (4096 - n0)) (plainT t)
theorem no_alike : JudgeAlike .no := by
  intro deep n0
  unfold judgeT heavyT
  by_cases hc : (decide (33 - deep < 1) || decide (4096 - n0 < 1)) = true
  · rw [if_pos (by simp at hc ⊢; omega), if_pos hc]
    exact ⟨by simp, fun m hm _ => by cases hm⟩
  · rw [if_neg hc]
    cases ho : ownV .no with
    | false => rw [if_pos (by simp)]; exact ⟨by simp [plainT, ho], fun m _ hq => by simp [plainT, ho] at hq⟩
    | true => rw [if_neg (by simp at hc ⊢; omega)]; exact ⟨by simp [plainT, ho], fun m hm _ => by simp at hm ⊢; omega⟩
theorem judge_alike (t : VT) : JudgeAlike t := by
  have key : ∀ t : VT, (∀ i, JudgeAlike (t.lt i)) → (∀ i, JudgeAlike (t.mt i)) → JudgeAlike t := by
    intro t hl hm deep n0
    have hL := alike_run (p := judgeL ownV letC t deep) (h := hvL t (33 - deep)) (q := fun i => plainT (t.lt i)) (fun i x => by
      have := hl i (deep + 1) x
      rw [show (33 : Int) - (deep + 1) = 33 - deep - 1 by omega] at this
      exact this) (n0 + 1) t.ln
    have hM := fun x => alike_run (p := judgeM ownV letC t deep) (h := hvM t (33 - deep)) (q := fun i => keyB t.key i && plainT (t.mt i)) (fun i x => by
      have := hm i (deep + 1) x
      rw [show (33 : Int) - (deep + 1) = 33 - deep - 1 by omega] at this
      have hk : keyB t.key i = !(decide (0 < i) && !risesB (t.key (i - 1)) (t.key i) || !(letC (t.key i) == 0)) := by
        unfold keyB
        cases (letC (t.key i) == 0) <;> cases (decide (0 < i) && !risesB (t.key (i - 1)) (t.key i)) <;> rfl
      unfold judgeM hvM
      rw [hk]
      cases (decide (0 < i) && !risesB (t.key (i - 1)) (t.key i) || !(letC (t.key i) == 0)) with
      | true => exact ⟨by simp, fun m _ hq => by simp at hq⟩
      | false => rw [if_neg (by simp)]; simpa using this) x t.mn
    rw [judgeT_eq, heavyT_eq, plainT_eq]
    by_cases hc : (decide (33 - deep < 1) || decide (4096 - n0 < 1)) = true
    · rw [if_pos hc, if_pos (by simp at hc ⊢; omega)]
      exact ⟨by simp, fun m hm _ => by cases hm⟩
    rw [if_neg hc]
    cases ho : ownV t with
    | false =>
      rw [if_pos (by simp)]
      exact ⟨by simp, fun m _ hq => by simp at hq⟩
    | true =>
      rw [if_neg (by simp at hc ⊢; omega)]
      rw [show (4096 : Int) - n0 - 1 = 4096 - (n0 + 1) by omega]
      obtain ⟨l1, l2⟩ := hL
      cases hf : foldO (hvL t (33 - deep)) t.ln (4096 - (n0 + 1)) with
      | none =>
        rw [hf] at l1
        rw [if_neg (by rw [l1]; simp)]
        exact ⟨by simp, fun m hm _ => by cases hm⟩
      | some m =>
        cases ha : allTo (fun i => plainT (t.lt i)) t.ln with
        | false =>
          rw [hf, ha] at l1
          rw [if_neg (by rw [l1]; simp)]
          exact ⟨by simp, fun m _ hq => by simp at hq⟩
        | true =>
          rw [hf, ha] at l1
          rw [if_pos (by rw [l1]; rfl), l2 m hf ha]
          have := hM (4096 - m)
          rw [show (4096 : Int) - (4096 - m) = m by omega] at this
          simpa using this
  induction t with
  | no => exact no_alike
  | mk k n s lA lb lo ln lc lt mA mb mo mn mc ky mt ihl ihm => exact key _ (fun i => ihl i) (fun i => ihm i)
theorem good_value (t : VT) : goodT t = valueB t := by
  have := (judge_alike t 1 0).1
  unfold goodT valueB heavyB
  rw [this]
  show ((heavyT t 32 4096).isSome && plainT t) = _
  cases heavyT t 32 4096 <;> rfl
end Go.Proofs.YtnapebgkcjnnbaaGreatDoor
namespace Go.Proofs.YtnapebgkcjnnbaaGreatDoor
open Go.RowKit
set_option linter.unusedVariables false
set_option linter.unusedSimpArgs false
theorem plain_ok (t : VT) : PlainOk t := by
  refine plain_v (fun s w hs => (rint_any s w hs).mono ?_) (fun s w hs => (number_any s w hs).mono ?_) (fun s w hs => rstamp_any s w hs) t
  · rintro e w' ⟨rfl, rfl⟩
    exact ⟨⟨_, rfl⟩, Below.refl _ _⟩
  · rintro e w' ⟨rfl, rfl⟩
    exact ⟨rfl, Below.refl _ _⟩
end Go.Proofs.YtnapebgkcjnnbaaGreatDoor
