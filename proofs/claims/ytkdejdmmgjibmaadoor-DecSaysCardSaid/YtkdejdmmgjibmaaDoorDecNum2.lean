/-
  Whole numbers as texts: told back, and their order: plain Lean. No condition beside that they fit.
-/
import Derived.Test.YtkdejdmmgjibmaaDoorDecNum
import Derived.Test.YtkdejdmmgjibmaaDoorDecNeg
namespace Go.Proofs.YtkdejdmmgjibmaaDoor
set_option linter.unusedVariables false
set_option linter.unusedSimpArgs false
def valV : List UInt8 → Nat
  | [] => 0
  | c :: l => (c.toNat - 48) * 10 ^ l.length + valV l
theorem fold_val (acc : Nat) (l : List UInt8) : l.foldl (fun a c => a * 10 + (c.toNat - 48)) acc = acc * 10 ^ l.length + valV l := by
  induction l generalizing acc with
  | nil => simp [valV]
  | cons c l ih =>
    rw [List.foldl_cons, ih, valV, List.length_cons, Nat.pow_succ, Nat.add_mul]
    have : acc * 10 * 10 ^ l.length = acc * (10 ^ l.length * 10) := by rw [Nat.mul_assoc, Nat.mul_comm 10]
    omega
theorem digVal_V (l : List UInt8) : digVal l = valV l := by unfold digVal; rw [fold_val]; simp
theorem dig_range {c : UInt8} (h : isDig c = true) : 48 ≤ c.toNat ∧ c.toNat ≤ 57 := by simp [isDig] at h; exact h
theorem val_lt {l : List UInt8} (hd : ∀ c ∈ l, isDig c = true) : valV l < 10 ^ l.length := by
  induction l with
  | nil => simp [valV]
  | cons c l ih =>
    have h1 := ih (fun c hc => hd c (List.mem_cons_of_mem _ hc))
    have h2 := dig_range (hd c (by simp))
    rw [valV, List.length_cons, Nat.pow_succ]
    have h3 : (c.toNat - 48) * 10 ^ l.length ≤ 9 * 10 ^ l.length := Nat.mul_le_mul_right _ (by omega)
    omega
theorem val_ge {l : List UInt8} (hd : ∀ c ∈ l, isDig c = true) (hne : l ≠ []) (h0 : l.head? ≠ some 48) : 10 ^ (l.length - 1) ≤ valV l := by
  cases l with
  | nil => exact absurd rfl hne
  | cons c l =>
    have h2 := dig_range (hd c (by simp))
    have hc : c.toNat ≠ 48 := fun e => h0 (by
      have : c = 48 := UInt8.toNat_inj.1 e
      rw [this]; rfl)
    rw [valV]
    have h3 : 1 * 10 ^ l.length ≤ (c.toNat - 48) * 10 ^ l.length := Nat.mul_le_mul_right _ (by omega)
    simp only [List.length_cons, Nat.add_sub_cancel]
    omega
theorem ci_nat (a b : Nat) : Lib.compareInt (a : Int) (b : Int) = if a < b then -1 else if b < a then 1 else 0 := by
  unfold Lib.compareInt; (repeat' split) <;> omega
theorem val_cmp {x y : List UInt8} (hx : ∀ c ∈ x, isDig c = true) (hy : ∀ c ∈ y, isDig c = true) (hl : x.length = y.length) : Lib.compareBytes x y = Lib.compareInt (valV x : Int) (valV y : Int) := by
  induction x generalizing y with
  | nil =>
    cases y with
    | nil => rfl
    | cons b y => simp at hl
  | cons a x ih =>
    cases y with
    | nil => simp at hl
    | cons b y =>
      have hl' : x.length = y.length := by simpa using hl
      have h1 := ih (fun c hc => hx c (List.mem_cons_of_mem _ hc)) (fun c hc => hy c (List.mem_cons_of_mem _ hc)) hl'
      have ha := dig_range (hx a (by simp))
      have hb := dig_range (hy b (by simp))
      have vx := val_lt (l := x) (fun c hc => hx c (List.mem_cons_of_mem _ hc))
      have vy := val_lt (l := y) (fun c hc => hy c (List.mem_cons_of_mem _ hc))
      rw [cb_cons, ci_nat, valV, valV]
      rw [ci_nat] at h1
      rw [hl'] at vx ⊢
      by_cases e1 : a.toNat < b.toNat
      · have h3 : (a.toNat - 48 + 1) * 10 ^ y.length ≤ (b.toNat - 48) * 10 ^ y.length := Nat.mul_le_mul_right _ (by omega)
        rw [Nat.add_mul] at h3
        rw [if_pos e1, if_pos (by omega)]
      · rw [if_neg e1]
        by_cases e2 : b.toNat < a.toNat
        · have h3 : (b.toNat - 48 + 1) * 10 ^ y.length ≤ (a.toNat - 48) * 10 ^ y.length := Nat.mul_le_mul_right _ (by omega)
          rw [Nat.add_mul] at h3
          rw [if_pos e2, if_neg (by omega), if_pos (by omega)]
        · have e : a.toNat = b.toNat := by omega
          rw [if_neg e2, h1, e]
          (repeat' split) <;> omega
theorem trimR_cons (a : UInt8) (x : List UInt8) : Lib.trimRightB (a :: x) 48 = if Lib.trimRightB x 48 = [] ∧ a = 48 then [] else a :: Lib.trimRightB x 48 := by
  unfold Lib.trimRightB
  rw [List.reverse_cons, List.dropWhile_append]
  by_cases h : x.reverse.dropWhile (· == 48) = []
  · rw [h]
    by_cases ha : a = 48
    · subst ha; simp
    · simp [ha]
  · have h1 : (x.reverse.dropWhile (· == 48)).isEmpty = false := by simpa using h
    rw [h1]
    rw [if_neg (by simp), if_neg (by rintro ⟨h2, -⟩; exact h (List.reverse_eq_nil_iff.1 h2))]
    simp
theorem trim_cmp {x y : List UInt8} (hx : ∀ c ∈ x, isDig c = true) (hy : ∀ c ∈ y, isDig c = true) (hl : x.length = y.length) : Lib.compareBytes (Lib.trimRightB x 48) (Lib.trimRightB y 48) = Lib.compareBytes x y := by
  induction x generalizing y with
  | nil =>
    cases y with
    | nil => rfl
    | cons b y => simp at hl
  | cons a x ih =>
    cases y with
    | nil => simp at hl
    | cons b y =>
      have hl' : x.length = y.length := by simpa using hl
      have h1 := ih (fun c hc => hx c (List.mem_cons_of_mem _ hc)) (fun c hc => hy c (List.mem_cons_of_mem _ hc)) hl'
      have ha := dig_range (hx a (by simp))
      have hb := dig_range (hy b (by simp))
      have h48 : ∀ {c : UInt8}, c = 48 → c.toNat = 48 := fun h => by subst h; rfl
      rw [trimR_cons, trimR_cons, cb_cons]
      by_cases c1 : Lib.trimRightB x 48 = [] ∧ a = 48 <;> by_cases c2 : Lib.trimRightB y 48 = [] ∧ b = 48
      · rw [if_pos c1, if_pos c2]
        have := h48 c1.2; have := h48 c2.2
        rw [c1.1, c2.1] at h1
        rw [if_neg (by omega), if_neg (by omega), ← h1]
      · rw [if_pos c1, if_neg c2]
        have ha := h48 c1.2
        show -1 = _
        by_cases e : a.toNat < b.toNat
        · rw [if_pos e]
        · have hb : b = 48 := UInt8.toNat_inj.1 (show b.toNat = 48 by omega)
          have hbn := h48 hb
          have hne : Lib.trimRightB y 48 ≠ [] := fun e => c2 ⟨e, hb⟩
          rw [if_neg e, if_neg (by omega), ← h1, c1.1]
          cases hq : Lib.trimRightB y 48 with
          | nil => exact absurd hq hne
          | cons d l => rfl
      · rw [if_neg c1, if_pos c2]
        have hb := h48 c2.2
        show 1 = _
        by_cases e : b.toNat < a.toNat
        · rw [if_neg (by omega), if_pos e]
        · have ha : a = 48 := UInt8.toNat_inj.1 (show a.toNat = 48 by omega)
          have hne : Lib.trimRightB x 48 ≠ [] := fun e => c1 ⟨e, ha⟩
          rw [if_neg (by omega), if_neg e, ← h1, c2.1]
          cases hq : Lib.trimRightB x 48 with
          | nil => exact absurd hq hne
          | cons d l => rfl
      · rw [if_neg c1, if_neg c2, cb_cons, h1]
theorem numD_val (n : Int) : valV (numD n) = n.natAbs := by rw [← digVal_V]; exact (dec_facts _).1
theorem numOf_full {n : Int} (h : n ≠ 0) : numOf n 0 = (decide (n < 0), Lib.trimRightB (numD n) 48, ((numD n).length : Int) - 1) ∧ Lib.trimRightB (numD n) 48 ≠ [] := by
  have hd := dec_lit n.natAbs
  have h0 := hd.2 (by omega)
  have h2 : Lib.trimLeftB (numD n ++ []) 48 = numD n := by rw [List.append_nil]; exact trimL_head h0
  constructor
  · unfold numOf normN
    rw [h2, if_neg hd.1.ne]
    simp only [List.length_append, List.length_nil]
    congr 2; omega
  · rw [show numD n = Lib.decDigits n.natAbs from rfl]
    cases hq : Lib.decDigits n.natAbs with
    | nil => exact absurd hq hd.1.ne
    | cons a l =>
      rw [trimR_cons, if_neg]
      · simp
      · rintro ⟨-, ha⟩; rw [hq, ha] at h0; exact h0 rfl
theorem numOf_zero : numOf 0 0 = (false, [], 0) := by
  unfold numOf normN numD
  rw [show Lib.decDigits (Int.natAbs 0) = [48] from Lib.decDigits_one (by decide)]; rfl
theorem sign_num (n : Int) : signN (numOf n 0) = if n < 0 then -1 else if n = 0 then 0 else 1 := by
  by_cases h : n = 0
  · subst h; rw [numOf_zero]; rfl
  · obtain ⟨h1, h2⟩ := numOf_full h
    rw [h1]
    unfold signN
    rw [if_neg h2]
    by_cases hn : n < 0 <;> simp [hn, h]
theorem size_num {m n : Int} (hm : m ≠ 0) (hn : n ≠ 0) : sizeN (numOf m 0) (numOf n 0) = Lib.compareInt (m.natAbs : Int) (n.natAbs : Int) := by
  obtain ⟨h1, _⟩ := numOf_full hm
  obtain ⟨h2, _⟩ := numOf_full hn
  have dm := dec_lit m.natAbs
  have dn := dec_lit n.natAbs
  have gm := val_ge dm.1.dig dm.1.ne (dm.2 (by omega))
  have gn := val_ge dn.1.dig dn.1.ne (dn.2 (by omega))
  have lm := val_lt dm.1.dig
  have ln := val_lt dn.1.dig
  have vm := numD_val m
  have vn := numD_val n
  have pm : 0 < (numD m).length := List.length_pos_iff.2 dm.1.ne
  have pn : 0 < (numD n).length := List.length_pos_iff.2 dn.1.ne
  rw [h1, h2]
  unfold sizeN
  by_cases hl : (numD m).length = (numD n).length
  · rw [if_neg (by simp [hl])]
    show Lib.compareBytes (Lib.trimRightB (numD m) 48) (Lib.trimRightB (numD n) 48) = _
    rw [trim_cmp dm.1.dig dn.1.dig hl, val_cmp dm.1.dig dn.1.dig hl, vm, vn]
  · rw [if_pos (by simp only; omega)]
    show Lib.compareInt (((numD m).length : Int) - 1) (((numD n).length : Int) - 1) = _
    rcases Nat.lt_or_gt_of_ne hl with h | h
    · have h3 : 10 ^ (numD m).length ≤ 10 ^ ((numD n).length - 1) := Nat.pow_le_pow_right (by omega) (by omega)
      have h4 : m.natAbs < n.natAbs := by
        rw [← vm, ← vn]
        exact Nat.lt_of_lt_of_le lm (Nat.le_trans h3 gn)
      unfold Lib.compareInt
      rw [if_pos (by omega), if_pos (by omega)]
    · have h3 : 10 ^ (numD n).length ≤ 10 ^ ((numD m).length - 1) := Nat.pow_le_pow_right (by omega) (by omega)
      have h4 : n.natAbs < m.natAbs := by
        rw [← vm, ← vn]
        exact Nat.lt_of_lt_of_le ln (Nat.le_trans h3 gm)
      unfold Lib.compareInt
      rw [if_neg (by omega), if_pos (by omega), if_neg (by omega), if_pos (by omega)]
theorem sgn_neg {n : Int} (h : n < 0) : signN (numOf n 0) = -1 := by rw [sign_num, if_pos h]
theorem sgn_pos {n : Int} (h : 0 < n) : signN (numOf n 0) = 1 := by rw [sign_num, if_neg (by omega), if_neg (by omega)]
theorem sgn_zero {n : Int} (h : n = 0) : signN (numOf n 0) = 0 := by rw [sign_num, if_neg (by omega), if_pos h]
theorem ci_lt {a b : Int} (h : a < b) : Lib.compareInt a b = -1 := by unfold Lib.compareInt; rw [if_pos h]
theorem ci_gt {a b : Int} (h : b < a) : Lib.compareInt a b = 1 := by unfold Lib.compareInt; rw [if_neg (by omega), if_pos (by omega)]
theorem cmp_num (m n : Int) : cmpNum (numOf m 0) (numOf n 0) = Lib.compareInt m n := by
  unfold cmpNum
  rcases Int.lt_trichotomy m 0 with hm | hm | hm <;> rcases Int.lt_trichotomy n 0 with hn | hn | hn
  · rw [sgn_neg hm, sgn_neg hn, if_neg (by simp), size_num (by omega) (by omega), Int.neg_mul, Int.one_mul, ← ci_neg]
    congr 1 <;> omega
  · rw [sgn_neg hm, sgn_zero hn, if_pos (by decide), ci_lt (by decide), ci_lt (by omega)]
  · rw [sgn_neg hm, sgn_pos hn, if_pos (by decide), ci_lt (by decide), ci_lt (by omega)]
  · rw [sgn_zero hm, sgn_neg hn, if_pos (by decide), ci_gt (by decide), ci_gt (by omega)]
  · rw [sgn_zero hm, sgn_zero hn, if_neg (by simp), Int.zero_mul, hm, hn, ci_self]
  · rw [sgn_zero hm, sgn_pos hn, if_pos (by decide), ci_lt (by decide), ci_lt (by omega)]
  · rw [sgn_pos hm, sgn_neg hn, if_pos (by decide), ci_gt (by decide), ci_gt (by omega)]
  · rw [sgn_pos hm, sgn_zero hn, if_pos (by decide), ci_gt (by decide), ci_gt (by omega)]
  · rw [sgn_pos hm, sgn_pos hn, if_neg (by simp), size_num (by omega) (by omega), Int.one_mul]
    congr 1 <;> omega
theorem val_mono (acc : Nat) (l : List UInt8) : acc ≤ l.foldl (fun a c => a * 10 + (c.toNat - 48)) acc := by
  rw [fold_val]
  have : 1 ≤ 10 ^ l.length := Nat.one_le_pow _ _ (by omega)
  have := Nat.le_mul_of_pos_right acc this
  omega
theorem uint_is {l : List UInt8} (hd : ∀ c ∈ l, isDig c = true) (acc : Nat) (h : l.foldl (fun a c => a * 10 + (c.toNat - 48)) acc ≤ 18446744073709551615) :
    Lib.parseUintM 18446744073709551615 acc l = .ok (l.foldl (fun a c => a * 10 + (c.toNat - 48)) acc) := by
  induction l generalizing acc with
  | nil => rfl
  | cons c l ih =>
    have hc := dig_range (hd c (by simp))
    have hm := val_mono (acc * 10 + (c.toNat - 48)) l
    rw [List.foldl_cons] at h ⊢
    unfold Lib.parseUintM
    rw [if_pos hc, if_neg (by omega), if_neg (by omega)]
    exact ih (fun c hc => hd c (List.mem_cons_of_mem _ hc)) _ h
theorem parseInt_itoa {n : Int} (h0 : -9223372036854775808 ≤ n) (h1 : n ≤ 9223372036854775807) : Lib.parseIntB 64 (Lib.itoa n) = .ok n := by
  have hd := dec_lit n.natAbs
  have hv : digVal (numD n) = n.natAbs := (dec_facts _).1
  have hu : Lib.parseUintB 64 (numD n) = .ok n.natAbs := by
    unfold Lib.parseUintB
    rw [if_neg hd.1.ne]
    have := uint_is hd.1.dig 0 (show digVal (numD n) ≤ _ by omega)
    rw [← hv]
    exact this
  rw [itoa_is]
  by_cases hn : n < 0
  · have hm : minus (decide (n < 0)) = [45] := by simp [minus, hn]
    rw [hm]
    show Lib.parseIntB 64 (45 :: numD n) = _
    unfold Lib.parseIntB
    simp only [show (45 : UInt8).toNat = 45 from rfl]
    rw [if_pos (.inr trivial), hu]
    simp only [not_true_eq_false, false_and, if_false, true_and, if_true]
    rw [if_neg (by omega)]
    congr 1; omega
  · have hm : minus (decide (n < 0)) = [] := by simp [minus, hn]
    rw [hm, List.nil_append]
    cases hq : Lib.decDigits n.natAbs with
    | nil => exact absurd hq hd.1.ne
    | cons c r =>
      have hc := dig_range (hd.1.dig c (by rw [hq]; simp))
      unfold Lib.parseIntB
      simp only
      have e45 : ¬ c.toNat = 45 := by omega
      rw [if_neg (by omega), ← hq, show Lib.decDigits n.natAbs = numD n from rfl, hu]
      simp only [e45, not_false_eq_true, true_and, false_and, if_false]
      rw [if_neg (by omega)]
      congr 1; omega
theorem noAny {l cs : List UInt8} (h : ∀ c ∈ l, cs.contains c = false) : Lib.containsAny l cs = false := by
  have key : Lib.indexAny l cs = -1 := by
    induction l with
    | nil => rfl
    | cons c l ih =>
      unfold Lib.indexAny
      rw [if_neg (by rw [h c (by simp)]; simp), ih (fun c hc => h c (List.mem_cons_of_mem _ hc))]
      rfl
  unfold Lib.containsAny
  rw [key]; rfl
theorem int_itoa {n : Int} (h0 : -9223372036854775808 ≤ n) (h1 : n ≤ 9223372036854775807) (hl : (numD n).length ≤ 300) : intN (Lib.itoa n) = some n := by
  have hd := dec_lit n.natAbs
  unfold intN
  rw [if_pos ?_, parseInt_itoa h0 h1]
  refine ⟨by unfold goodN; rw [parse_itoa hl]; rfl, noAny fun c hc => ?_, fun e => ?_⟩
  · rw [itoa_is] at hc
    rcases List.mem_append.1 hc with hc | hc
    · unfold minus at hc
      split at hc
      · obtain rfl := List.mem_singleton.1 hc; decide
      · cases hc
    · have := dig_range (hd.1.dig c hc)
      cases hk : ([46, 101, 69] : List UInt8).contains c
      · rfl
      · simp at hk
        rcases hk with rfl | rfl | rfl <;> simp at this
  · rw [itoa_is] at e
    by_cases hn : n < 0
    · have hm : minus (decide (n < 0)) = [45] := by simp [minus, hn]
      rw [hm] at e
      have e2 : Lib.decDigits n.natAbs = [48] := by simpa using e
      exact hd.2 (by omega) (by rw [e2]; rfl)
    · have hm : minus (decide (n < 0)) = [] := by simp [minus, hn]
      rw [hm, List.nil_append] at e
      exact dec_not_minus _ _ e
end Go.Proofs.YtkdejdmmgjibmaaDoor
