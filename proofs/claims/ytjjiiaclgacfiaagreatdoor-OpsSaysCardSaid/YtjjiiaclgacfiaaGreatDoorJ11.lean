/-
  ops.Good and the reference's Op tell the same: plain Lean. No condition beside 64 numbers in a vector.
  value.Good and the reference's Value tell the same, for all trees: plain Lean. No condition.
  The reference's Stamp tells what value's stamp tells, for all strings. No condition.
  The reference's Op tells what ops.Good tells, for all operations. No condition beside 64 numbers in a vector.
-/
import Derived.Test.YtjjiiaclgacfiaaGreatDoorJ10
import Derived.Test.YtjjiiaclgacfiaaGreatDoorOpGoodJ
import Derived.Test.YtjjiiaclgacfiaaGreatDoorJ9
import Derived.Test.YtjjiiaclgacfiaaGreatDoorJ5
import Derived.Test.YtjjiiaclgacfiaaGreatDoorJ8
import Derived.Test.YtjjiiaclgacfiaaGreatDoorROpAJ
import Derived.Test.YtjjiiaclgacfiaaGreatDoorROpBJ
import Derived.Test.YtjjiiaclgacfiaaGreatDoorROpCJ
import Derived.Test.YtjjiiaclgacfiaaGreatDoorROpDJ
import Derived.Test.YtjjiiaclgacfiaaGreatDoorRTakeJ
import Derived.Test.YtjjiiaclgacfiaaGreatDoorJ13
namespace Go.Proofs.YtjjiiaclgacfiaaGreatDoor
set_option linter.unusedVariables false
set_option linter.unusedSimpArgs false
theorem seen_split (o : OpV) (h1 : 1 ≤ o.R) (h2 : o.R ≤ 64) : seenB o = (allTo (inB o) 64 && (vat o.seen (o.R.toNat - 1) == o.N - 1)) := by
  rw [Bool.eq_iff_iff, seenB, seenTo_iff, Bool.and_eq_true, allTo_iff, beq_iff_eq]
  have hc : ((o.R.toNat - 1 : Nat) : Int) = o.R - 1 := by omega
  constructor
  · intro h
    refine ⟨fun k hk => ?_, ?_⟩
    · have := h k hk
      unfold seenAt at this
      unfold inB
      simp only [Bool.and_eq_true] at this ⊢
      exact this.1
    · have := h (o.R.toNat - 1) (by omega)
      unfold seenAt at this
      simp only [Bool.and_eq_true, Bool.or_eq_true, Bool.not_eq_true', beq_eq_false_iff_ne, beq_iff_eq] at this
      rcases this.2 with h3 | h3
      · exact absurd hc h3
      · exact h3
  · rintro ⟨h, hx⟩ k hk
    have := h k hk
    unfold inB at this
    unfold seenAt
    simp only [Bool.and_eq_true, Bool.or_eq_true, Bool.not_eq_true', beq_eq_false_iff_ne, beq_iff_eq] at this ⊢
    refine ⟨this, ?_⟩
    by_cases hk2 : (k : Int) = o.R - 1
    · right
      have : k = o.R.toNat - 1 := by omega
      rw [this]; exact hx
    · exact .inl hk2
theorem obj_if (o : OpV) (nb : Bool) : namedB o o.OR o.ON nb = if objB o = true then nb else hasB o.seen o.OR o.ON := by
  unfold namedB objB
  by_cases h : o.OR = 0 ∧ o.ON = 0
  · rw [if_pos h, if_pos (by simp [h])]
  · rw [if_neg h, if_neg (by simpa using h)]
theorem at_if (o : OpV) (nb : Bool) : namedB o o.AR o.AN nb = if atB o = true then nb else hasB o.seen o.AR o.AN := by
  unfold namedB atB
  by_cases h : o.AR = 0 ∧ o.AN = 0
  · rw [if_pos h, if_pos (by simp [h])]
  · rw [if_neg h, if_neg (by simpa using h)]
theorem op_law (o : OpV) (kv zb vb : Bool) : opB o vb zb kv = ropB o (kv && decide (o.key.size ≤ 4096)) zb vb := by
  unfold opB ropB headB
  cases hg : goodB o.R o.N with
  | false => rfl
  | true =>
    have hr := (goodB_iff.1 hg).1
    rw [seen_split o hr.1 hr.2]
    unfold tailB makesB addsB
    have hA : (o.AR == 0 && o.AN == 0) = atB o := rfl
    rw [hA, obj_if, obj_if, at_if]
    generalize hasB o.seen o.OR o.ON = b1
    generalize hasB o.seen o.AR o.AN = b2
    generalize atB o = b3
    generalize objB o = b4
    generalize allTo (inB o) 64 = b5
    generalize (vat o.seen (o.R.toNat - 1) == o.N - 1) = b6
    generalize (kv && decide (o.key.size ≤ 4096)) = b7
    generalize o.key.toList.isEmpty = b8
    generalize decide (1 ≤ o.T) = b9
    generalize (o.VK != 5) = b10
    generalize (o.VK != 6) = b11
    by_cases k1 : o.K = 1
    · by_cases m0 : o.M = 0
      case pos => simp only [k1, m0]; rw [Bool.eq_iff_iff]; simp <;> grind
      by_cases m1 : o.M = 1
      case pos => simp only [k1, m1]; rw [Bool.eq_iff_iff]; simp <;> grind
      by_cases m2 : o.M = 2
      case pos => simp only [k1, m2]; rw [Bool.eq_iff_iff]; simp <;> grind
      have mm : ¬ (0 ≤ o.M ∧ o.M ≤ 2) := by omega
      simp only [k1]; rw [Bool.eq_iff_iff]; simp [m0, m1, m2] <;> (intros; omega)
    by_cases k2 : o.K = 2
    · by_cases m0 : o.M = 0
      case pos => simp only [k2, m0]; rw [Bool.eq_iff_iff]; simp <;> grind
      by_cases m1 : o.M = 1
      case pos => simp only [k2, m1]; rw [Bool.eq_iff_iff]; simp <;> grind
      by_cases m2 : o.M = 2
      case pos => simp only [k2, m2]; rw [Bool.eq_iff_iff]; simp <;> grind
      have mm : ¬ (0 ≤ o.M ∧ o.M ≤ 2) := by omega
      simp only [k2]; rw [Bool.eq_iff_iff]; simp [m0, m1, m2] <;> (intros; omega)
    by_cases k3 : o.K = 3
    · by_cases m0 : o.M = 0
      case pos => simp only [k3, m0]; rw [Bool.eq_iff_iff]; simp <;> grind
      by_cases m1 : o.M = 1
      case pos => simp only [k3, m1]; rw [Bool.eq_iff_iff]; simp <;> grind
      by_cases m2 : o.M = 2
      case pos => simp only [k3, m2]; rw [Bool.eq_iff_iff]; simp <;> grind
      have mm : ¬ (0 ≤ o.M ∧ o.M ≤ 2) := by omega
      simp only [k3]; rw [Bool.eq_iff_iff]; simp [m0, m1, m2] <;> (intros; omega)
    by_cases k4 : o.K = 4
    · by_cases m0 : o.M = 0
      case pos => simp only [k4, m0]; rw [Bool.eq_iff_iff]; simp <;> grind
      by_cases m1 : o.M = 1
      case pos => simp only [k4, m1]; rw [Bool.eq_iff_iff]; simp <;> grind
      by_cases m2 : o.M = 2
      case pos => simp only [k4, m2]; rw [Bool.eq_iff_iff]; simp <;> grind
      have mm : ¬ (0 ≤ o.M ∧ o.M ≤ 2) := by omega
      simp only [k4]; rw [Bool.eq_iff_iff]; simp [m0, m1, m2] <;> (intros; omega)
    · rw [Bool.eq_iff_iff]
      simp [k1, k2, k3, k4]
      intros
      omega
end Go.Proofs.YtjjiiaclgacfiaaGreatDoor
namespace Go.Proofs.YtjjiiaclgacfiaaGreatDoor
set_option linter.unusedVariables false
set_option linter.unusedSimpArgs false
/-- What counts up to 4096 and what counts down from it say the same. -/
def Alike (p : Bool × Int) (h : Option Int) (q : Bool) : Prop := p.1 = (h.isSome && q) ∧ ∀ m, h = some m → q = true → p.2 = 4096 - m
theorem alike_run {p : Nat → Int → Bool × Int} {h : Nat → Int → Option Int} {q : Nat → Bool} (hp : ∀ i x, Alike (p i x) (h i (4096 - x)) (q i)) (n : Int) : ∀ k, Alike (runTo p k n) (foldO h k (4096 - n)) (allTo q k) := by
  intro k
  induction k with
  | zero => exact ⟨rfl, fun m hm _ => by simp [foldO] at hm; simp [runTo]; omega⟩
  | succ k ih =>
    obtain ⟨h1, h2⟩ := ih
    rw [runTo, foldO, allTo]
    cases hf : foldO h k (4096 - n) with
    | none =>
      rw [hf] at h1
      rw [if_neg (by rw [h1]; simp)]
      exact ⟨rfl, fun m hm _ => by cases hm⟩
    | some m =>
      cases ha : allTo q k with
      | false =>
        rw [hf, ha] at h1
        rw [if_neg (by rw [h1]; simp)]
        exact ⟨by simp, fun m _ hq => by cases hq⟩
      | true =>
        rw [hf, ha] at h1
        rw [if_pos (by rw [h1]; rfl), h2 m hf ha]
        have := hp k (4096 - m)
        rw [show (4096 : Int) - (4096 - m) = m by omega] at this
        rw [Bool.true_and]
        exact this
def JudgeAlike (t : VT) : Prop := ∀ deep n0, Alike (judgeT ownV letC t deep n0) (heavyT t (33 - deep) (4096 - n0)) (plainT t)
theorem no_alike : JudgeAlike .no := by
  intro deep n0
  unfold judgeT heavyT
  by_cases hc : (decide (33 - deep < 1) || decide (4096 - n0 < 1)) = true
  · rw [if_pos (by simp at hc ⊢; omega), if_pos hc]
    exact ⟨by simp, fun m hm _ => by cases hm⟩
  · rw [if_neg hc]
    cases ho : ownV .no with
    | false => rw [if_pos (by simp)]; exact ⟨by simp [plainT, ho], fun m _ hq => by simp [plainT, ho] at hq⟩
    | true => rw [if_neg (by simp at hc ⊢; omega)]; exact ⟨by simp [plainT, ho], fun m hm _ => by simp at hm ⊢; omega⟩
theorem judge_alike (t : VT) : JudgeAlike t := by
  have key : ∀ t : VT, (∀ i, JudgeAlike (t.lt i)) → (∀ i, JudgeAlike (t.mt i)) → JudgeAlike t := by
    intro t hl hm deep n0
    have hL := alike_run (p := judgeL ownV letC t deep) (h := hvL t (33 - deep)) (q := fun i => plainT (t.lt i)) (fun i x => by
      have := hl i (deep + 1) x
      rw [show (33 : Int) - (deep + 1) = 33 - deep - 1 by omega] at this
      exact this) (n0 + 1) t.ln
    have hM := fun x => alike_run (p := judgeM ownV letC t deep) (h := hvM t (33 - deep)) (q := fun i => keyB t.key i && plainT (t.mt i)) (fun i x => by
      have := hm i (deep + 1) x
      rw [show (33 : Int) - (deep + 1) = 33 - deep - 1 by omega] at this
      have hk : keyB t.key i = !(decide (0 < i) && !risesB (t.key (i - 1)) (t.key i) || !(letC (t.key i) == 0)) := by
        unfold keyB
        cases (letC (t.key i) == 0) <;> cases (decide (0 < i) && !risesB (t.key (i - 1)) (t.key i)) <;> rfl
      unfold judgeM hvM
      rw [hk]
      cases (decide (0 < i) && !risesB (t.key (i - 1)) (t.key i) || !(letC (t.key i) == 0)) with
      | true => exact ⟨by simp, fun m _ hq => by simp at hq⟩
      | false => rw [if_neg (by simp)]; simpa using this) x t.mn
    rw [judgeT_eq, heavyT_eq, plainT_eq]
    by_cases hc : (decide (33 - deep < 1) || decide (4096 - n0 < 1)) = true
    · rw [if_pos hc, if_pos (by simp at hc ⊢; omega)]
      exact ⟨by simp, fun m hm _ => by cases hm⟩
    rw [if_neg hc]
    cases ho : ownV t with
    | false =>
      rw [if_pos (by simp)]
      exact ⟨by simp, fun m _ hq => by simp at hq⟩
    | true =>
      rw [if_neg (by simp at hc ⊢; omega)]
      rw [show (4096 : Int) - n0 - 1 = 4096 - (n0 + 1) by omega]
      obtain ⟨l1, l2⟩ := hL
      cases hf : foldO (hvL t (33 - deep)) t.ln (4096 - (n0 + 1)) with
      | none =>
        rw [hf] at l1
        rw [if_neg (by rw [l1]; simp)]
        exact ⟨by simp, fun m hm _ => by cases hm⟩
      | some m =>
        cases ha : allTo (fun i => plainT (t.lt i)) t.ln with
        | false =>
          rw [hf, ha] at l1
          rw [if_neg (by rw [l1]; simp)]
          exact ⟨by simp, fun m _ hq => by simp at hq⟩
        | true =>
          rw [hf, ha] at l1
          rw [if_pos (by rw [l1]; rfl), l2 m hf ha]
          have := hM (4096 - m)
          rw [show (4096 : Int) - (4096 - m) = m by omega] at this
          simpa using this
  induction t with
  | no => exact no_alike
  | mk k n s lA lb lo ln lc lt mA mb mo mn mc ky mt ihl ihm => exact key _ (fun i => ihl i) (fun i => ihm i)
theorem good_value (t : VT) : goodT t = valueB t := by
  have := (judge_alike t 1 0).1
  unfold goodT valueB heavyB
  rw [this]
  show ((heavyT t 32 4096).isSome && plainT t) = _
  cases heavyT t 32 4096 <;> rfl
end Go.Proofs.YtjjiiaclgacfiaaGreatDoor
namespace Go.Proofs.YtjjiiaclgacfiaaGreatDoor
open Go.RowKit
set_option linter.unusedVariables false
set_option linter.unusedSimpArgs false
theorem oddL_drop {l : List UInt8} {i : Nat} {c : UInt8} (h : l[i]? = some c) : oddL (l.drop i) = (oddB c || oddL (l.drop (i + 1))) := by
  obtain ⟨hi, rfl⟩ := List.getElem?_eq_some_iff.1 h
  rw [List.drop_eq_getElem_cons hi]
  rfl
theorem stamp_go (s : ByteArray) (hs : s.size ≤ 9223372036854775807) : ∀ (d k i : Nat), s.size - i ≤ d → d + 1 ≤ k → i ≤ s.size → dragomanref1_Stamp.l0 k s i = some (!(oddL (s.data.toList.drop i))) := by
  intro d
  induction d with
  | zero =>
    intro k i hd hk hi
    obtain ⟨k, rfl⟩ : ∃ m, k = m + 1 := ⟨k - 1, by omega⟩
    obtain rfl : i = s.size := by omega
    rw [dragomanref1_Stamp.l0, if_neg (by omega), List.drop_of_length_le (by rw [Lib.size_eq]; omega)]; rfl
  | succ d ih =>
    intro k i hd hk hi
    obtain ⟨k, rfl⟩ : ∃ m, k = m + 1 := ⟨k - 1, by omega⟩
    rw [dragomanref1_Stamp.l0]
    by_cases hlt : i < s.size
    · have hz : ((i : Int)).toNat < s.size := by simpa using hlt
      have hb : bt s (i : Int) = ((s[i]'hlt).toNat : Int) := (bt_at s (i : Int) hz).symm
      have hc : s.data.toList[i]? = some (s[i]'hlt) := by
        rw [List.getElem?_eq_getElem (by rw [← Lib.size_eq]; exact hlt)]; rfl
      rw [if_pos (by omega), if_pos (by omega), hb, oddL_drop hc]
      by_cases h1 : ((s[i]'hlt).toNat : Int) < 32
      · rw [if_pos h1]
        have : oddB (s[i]'hlt) = true := by unfold oddB; simp; omega
        rw [this]; rfl
      rw [if_neg h1]
      by_cases h2 : ((s[i]'hlt).toNat : Int) > 126
      · rw [if_pos h2]
        have : oddB (s[i]'hlt) = true := by unfold oddB; simp; omega
        rw [this]; rfl
      · rw [if_neg h2]
        have : oddB (s[i]'hlt) = false := by unfold oddB; simp; omega
        rw [this, show wrap64 ((i : Int) + 1) = ((i + 1 : Nat) : Int) by unfold wrap64; omega, ih k (i + 1) (by omega) (by omega) (by omega)]; rfl
    · obtain rfl : i = s.size := by omega
      rw [if_neg (by omega), List.drop_of_length_le (by rw [Lib.size_eq]; omega)]; rfl
theorem rstamp_eq (s : ByteArray) (hs : s.size ≤ 9223372036854775807) : dragomanref1_Stamp.f (s.size + 3) s = some (stampB s) := by
  unfold dragomanref1_Stamp.f stampB
  by_cases h1 : (s.size : Int) < 1
  · rw [if_pos h1, dragomanref1_Stamp.j0, if_pos rfl, decide_eq_false (show ¬ 1 ≤ s.size by omega)]; rfl
  rw [if_neg h1, dragomanref1_Stamp.j0, decide_eq_true (show 1 ≤ s.size by omega)]
  by_cases h2 : (s.size : Int) > 64
  · rw [if_pos (by simpa using h2), decide_eq_false (show ¬ s.size ≤ 64 by omega)]; rfl
  · rw [if_neg (by simpa using h2), show (0 : Int) = ((0 : Nat) : Int) from rfl, stamp_go s hs s.size _ 0 (by omega) (by omega) (by omega), decide_eq_true (show s.size ≤ 64 by omega)]
    simp
theorem rstamp_any (s : ByteArray) (w : World) (hs : s.size ≤ 9223372036854775807) : Calls Tryz.prog 45 #[.string s] w fun e w' => e = .returned (.bool (stampB s)) ∧ Below w.heap.size w w' :=
  (dragomanref1_Stamp.calls _ s _ w (rstamp_eq s hs)).mono fun _ _ ⟨he, hd⟩ => ⟨he, hd.below⟩
end Go.Proofs.YtjjiiaclgacfiaaGreatDoor
namespace Go.Proofs.YtjjiiaclgacfiaaGreatDoor
open Go.RowKit
set_option linter.unusedVariables false
set_option linter.unusedSimpArgs false
theorem plain_ok (t : VT) : PlainOk t := by
  refine plain_v (fun s w hs => (rint_any s w hs).mono ?_) (fun s w hs => (number_any s w hs).mono ?_) (fun s w hs => rstamp_any s w hs) t
  · rintro e w' ⟨rfl, rfl⟩
    exact ⟨⟨_, rfl⟩, Below.refl _ _⟩
  · rintro e w' ⟨rfl, rfl⟩
    exact ⟨rfl, Below.refl _ _⟩
theorem rop_raw (o : OpV) (t : VT) (w : World) (ho : o.seen.length = 64) (hv : o.vc = t.c) (ht : VT.In w.heap.size w t) :
    Calls Tryz.prog 7 #[opv o] w fun e w' => e = .returned (.bool (ropB o (letC o.key == 0) (sameV t .no) (valueB t))) ∧ Below w.heap.size w w' := by
  have HZ := Lib.hid (fun (W : World) (hW : Below w.heap.size w W) => hv ▸ rzero_any t W ((ht.move hW).up hW.size))
  have HV := Lib.hid (fun (W : World) (hW : Below w.heap.size w W) => hv ▸ rvalue_any plain_ok t W ((ht.move hW).up hW.size))
  have HS := fun W => rstr_any o.key W
  cases hg : goodB o.R o.N
  · exact rop_g o _ _ w ho HZ HV _ hg
  by_cases h1 : o.T < 1
  · exact rop_t o _ _ w ho HZ HV _ hg h1
  have h1 : 1 ≤ o.T := by omega
  by_cases h2 : o.K < 1
  · exact rop_k o _ _ w ho HZ HV _ hg h1 h2
  have h2 : 1 ≤ o.K := by omega
  by_cases h3 : 4 < o.K
  · exact rop_l o _ _ w ho HZ HV _ hg h1 h3
  have h3 : o.K ≤ 4 := by omega
  by_cases h4 : o.M < 0
  · exact rop_m o _ _ w ho HZ HV _ hg h1 h2 h3 h4
  have h4 : 0 ≤ o.M := by omega
  by_cases h5 : 2 < o.M
  · exact rop_n o _ _ w ho HZ HV _ hg h1 h2 h3 h5
  have h5 : o.M ≤ 2 := by omega
  by_cases k1 : o.K = 1
  · exact rop_kind1 o _ _ w ho HZ HV _ HS hg h1 k1 h4 h5
  by_cases k2 : o.K = 2
  · exact rop_kind2 o _ _ w ho HZ HV _ HS hg h1 k2 h4 h5
  by_cases k3 : o.K = 3
  · exact rop_kind3 o _ _ w ho HZ HV _ HS hg h1 k3 h4 h5
  · exact rop_kind4 o _ _ w ho HZ HV _ HS hg h1 (by omega) h4 h5
theorem let_is (s : ByteArray) : (letC s == 0) = ((validS s).2 && decide (s.size ≤ 4096)) := by
  unfold letC
  cases (validS s).2
  · rfl
  · by_cases h : 4096 < s.size
    · simp [h]; try omega
    · simp [h]; try omega
theorem rop_any (o : OpV) (t : VT) (w : World) (ho : o.seen.length = 64) (hv : o.vc = t.c) (ht : VT.In w.heap.size w t) :
    Calls Tryz.prog 7 #[opv o] w fun e w' => e = .returned (.bool (opB o (goodT t) (sameV t .no) (validS o.key).2)) ∧ Below w.heap.size w w' := by
  have h := rop_raw o t w ho hv ht
  rw [good_value, op_law, ← let_is]
  exact h
end Go.Proofs.YtjjiiaclgacfiaaGreatDoor
