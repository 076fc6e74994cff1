/-
  The order of numbers, in plain Lean: turned round it turns; what is below what is below is below; alike just if the one form is. No condition beside that both were read out of texts.
-/
import Derived.Test.YtkdejdmmgjibmaaDoorDecInt
import Derived.Test.YtkdejdmmgjibmaaDoorDecCmp
namespace Go.Proofs.YtkdejdmmgjibmaaDoor
set_option linter.unusedVariables false
set_option linter.unusedSimpArgs false
theorem ci_anti (a b : Int) : Lib.compareInt b a = -Lib.compareInt a b := by
  unfold Lib.compareInt; (repeat' split) <;> omega
theorem ci_zero {a b : Int} (h : Lib.compareInt a b = 0) : a = b := by
  unfold Lib.compareInt at h; (repeat' split at h) <;> omega
theorem ci_trans {a b c v : Int} (h1 : Lib.compareInt a b = v) (h2 : Lib.compareInt b c = v) : Lib.compareInt a c = v := by
  unfold Lib.compareInt at *; (repeat' split at h1) <;> (repeat' split at h2) <;> (repeat' split) <;> omega
theorem cb_cons (a b : UInt8) (al bl : List UInt8) : Lib.compareBytes (a :: al) (b :: bl) = if a.toNat < b.toNat then -1 else if b.toNat < a.toNat then 1 else Lib.compareBytes al bl := rfl
theorem cb_anti (a b : List UInt8) : Lib.compareBytes b a = -Lib.compareBytes a b := by
  induction a generalizing b with
  | nil => cases b <;> simp [Lib.compareBytes]
  | cons x a ih =>
    cases b with
    | nil => simp [Lib.compareBytes]
    | cons y b =>
      rw [cb_cons, cb_cons]
      (repeat' split) <;> first | omega | exact ih b
theorem cb_zero {a b : List UInt8} (h : Lib.compareBytes a b = 0) : a = b := by
  induction a generalizing b with
  | nil => cases b with
    | nil => rfl
    | cons y b => simp [Lib.compareBytes] at h
  | cons x a ih =>
    cases b with
    | nil => simp [Lib.compareBytes] at h
    | cons y b =>
      rw [cb_cons] at h
      split at h
      · omega
      · split at h
        · omega
        · rw [ih h, UInt8.toNat_inj.1 (show x.toNat = y.toNat by omega)]
theorem cb_self (a : List UInt8) : Lib.compareBytes a a = 0 := by
  induction a with
  | nil => rfl
  | cons x a ih => rw [cb_cons, if_neg (by omega), if_neg (by omega), ih]
theorem cb_trans {a b c : List UInt8} {v : Int} (h1 : Lib.compareBytes a b = v) (h2 : Lib.compareBytes b c = v) : Lib.compareBytes a c = v := by
  induction a generalizing b c with
  | nil =>
    cases b with
    | nil => exact h2
    | cons y b =>
      cases c with
      | nil => simp [Lib.compareBytes] at h1 h2; omega
      | cons z c => simpa [Lib.compareBytes] using h1
  | cons x a ih =>
    cases b with
    | nil =>
      cases c with
      | nil => exact h1
      | cons z c => simp [Lib.compareBytes] at h1 h2; omega
    | cons y b =>
      cases c with
      | nil => simpa [Lib.compareBytes] using h2
      | cons z c =>
        rw [cb_cons] at h1 h2 ⊢
        by_cases e1 : x.toNat < y.toNat
        · rw [if_pos e1] at h1
          by_cases e2 : y.toNat < z.toNat
          · rw [if_pos (by omega)]; exact h1
          · rw [if_neg e2] at h2
            by_cases e3 : z.toNat < y.toNat
            · rw [if_pos e3] at h2; omega
            · rw [if_pos (by omega)]; exact h1
        · rw [if_neg e1] at h1
          by_cases e1' : y.toNat < x.toNat
          · rw [if_pos e1'] at h1
            by_cases e2 : y.toNat < z.toNat
            · rw [if_pos e2] at h2; omega
            · rw [if_neg e2] at h2
              rw [if_neg (by omega), if_pos (by omega)]; exact h1
          · rw [if_neg e1'] at h1
            by_cases e2 : y.toNat < z.toNat
            · rw [if_pos e2] at h2; rw [if_pos (by omega)]; exact h2
            · rw [if_neg e2] at h2
              by_cases e3 : z.toNat < y.toNat
              · rw [if_pos e3] at h2; rw [if_neg (by omega), if_pos (by omega)]; exact h2
              · rw [if_neg e3] at h2
                rw [if_neg (by omega), if_neg (by omega)]
                exact ih h1 h2
theorem size_anti (x y : Num) : sizeN y x = -sizeN x y := by
  unfold sizeN
  by_cases h : x.2.2 = y.2.2
  · rw [if_neg (by simp [h]), if_neg (by simp [h]), cb_anti]
  · rw [if_pos h, if_pos (fun e => h e.symm), ci_anti]
theorem ci_ne {a b : Int} (h : a ≠ b) : Lib.compareInt a b ≠ 0 := fun e => h (ci_zero e)
theorem size_trans {x y z : Num} {v : Int} (h1 : sizeN x y = v) (h2 : sizeN y z = v) : sizeN x z = v := by
  unfold sizeN at *
  by_cases e1 : x.2.2 = y.2.2
  · rw [if_neg (by simp [e1])] at h1
    by_cases e2 : y.2.2 = z.2.2
    · rw [if_neg (by simp [e2])] at h2
      rw [if_neg (by simp [e1, e2])]
      exact cb_trans h1 h2
    · rw [if_pos e2] at h2
      rw [if_pos (by rw [e1]; exact e2), e1]; exact h2
  · rw [if_pos e1] at h1
    by_cases e2 : y.2.2 = z.2.2
    · rw [if_pos (by rw [← e2]; exact e1), ← e2]; exact h1
    · rw [if_pos e2] at h2
      have h3 := ci_trans h1 h2
      have h0 := ci_ne e1
      rw [if_pos (fun e => by rw [e] at h3; have : Lib.compareInt z.2.2 z.2.2 = 0 := by unfold Lib.compareInt; (repeat' split) <;> omega
                              omega)]
      exact h3
theorem ci_self (a : Int) : Lib.compareInt a a = 0 := by unfold Lib.compareInt; (repeat' split) <;> omega
theorem num_anti (x y : Num) : cmpNum y x = -cmpNum x y := by
  unfold cmpNum
  by_cases h : signN x = signN y
  · rw [if_neg (by simp [h]), if_neg (by simp [h]), size_anti, h, Int.mul_neg]
  · rw [if_pos h, if_pos (fun e => h e.symm), ci_anti]
theorem num_trans {x y z : Num} {v : Int} (h1 : cmpNum x y = v) (h2 : cmpNum y z = v) : cmpNum x z = v := by
  unfold cmpNum at *
  by_cases e1 : signN x = signN y
  · rw [if_neg (by simp [e1])] at h1
    by_cases e2 : signN y = signN z
    · rw [if_neg (by simp [e2])] at h2
      rw [if_neg (by simp [e1, e2])]
      rw [e1] at h1 ⊢
      rcases signN_range y with h | h | h
      · rw [h] at h1 h2 ⊢
        have := size_trans (x := x) (y := y) (z := z) (v := -v) (by omega) (by omega)
        omega
      · rw [h] at h1 h2 ⊢; omega
      · rw [h] at h1 h2 ⊢
        have := size_trans (x := x) (y := y) (z := z) (v := v) (by omega) (by omega)
        omega
    · rw [if_pos e2] at h2
      rw [if_pos (by rw [e1]; exact e2), e1]; exact h2
  · rw [if_pos e1] at h1
    by_cases e2 : signN y = signN z
    · rw [if_pos (by rw [← e2]; exact e1), ← e2]; exact h1
    · rw [if_pos e2] at h2
      have h3 := ci_trans h1 h2
      have h0 := ci_ne e1
      rw [if_pos (fun e => by rw [e, ci_self] at h3; omega)]
      exact h3
/-- The number that digits say. -/
def digVal (l : List UInt8) : Nat := l.foldl (fun a c => a * 10 + (c.toNat - 48)) 0
theorem digVal_snoc (l : List UInt8) (c : UInt8) : digVal (l ++ [c]) = digVal l * 10 + (c.toNat - 48) := by simp [digVal]
theorem dig_nat {k : Nat} (h : k < 10) : (UInt8.ofNat (48 + k)).toNat = 48 + k := by simp; omega
theorem dec_facts (u : Nat) : digVal (Lib.decDigits u) = u ∧ (∀ c ∈ Lib.decDigits u, isDig c = true) ∧ Lib.decDigits u ≠ [] := by
  induction u using Nat.strongRecOn with
  | ind u ih =>
    rw [Lib.decDigits]
    split
    · rename_i h
      refine ⟨by simp [digVal]; omega, fun c hc => ?_, by simp⟩
      obtain rfl := List.mem_singleton.1 hc
      simp only [isDig, dig_nat h]; simp; omega
    · rename_i h
      obtain ⟨i1, i2, i3⟩ := ih (u / 10) (by omega)
      refine ⟨by rw [digVal_snoc, i1, dig_nat (by omega)]; omega, fun c hc => ?_, by simp⟩
      rcases List.mem_append.1 hc with hc | hc
      · exact i2 c hc
      · obtain rfl := List.mem_singleton.1 hc
        have hm : u % 10 < 10 := by omega
        simp only [isDig, dig_nat hm]; simp; omega
theorem dec_inj {u v : Nat} (h : Lib.decDigits u = Lib.decDigits v) : u = v := by rw [← (dec_facts u).1, ← (dec_facts v).1, h]
theorem dec_not_minus (u : Nat) (l : List UInt8) : Lib.decDigits u ≠ 45 :: l := fun h => by
  have := (dec_facts u).2.1 45 (by rw [h]; simp)
  simp [isDig] at this
theorem itoa_inj {m n : Int} (h : Lib.itoa m = Lib.itoa n) : m = n := by
  unfold Lib.itoa at h
  split at h <;> split at h
  · have := dec_inj (List.cons.inj h).2; omega
  · exact absurd h.symm (dec_not_minus _ _)
  · exact absurd h (dec_not_minus _ _)
  · have := dec_inj h; omega
/-- What stands ahead of the power, in a number's one form. -/
def mant (D : List UInt8) : List UInt8 := D.take 1 ++ (if 1 < D.length then 46 :: D.drop 1 else [])
def pow (p : Int) : List UInt8 := if p ≠ 0 then 101 :: Lib.itoa p else []
theorem mant_back {D : List UInt8} (hd : ∀ c ∈ D, isDig c = true) : (mant D).filter (· != 46) = D := by
  have hf : ∀ l : List UInt8, (∀ c ∈ l, isDig c = true) → l.filter (· != 46) = l := fun l hl => List.filter_eq_self.2 fun c hc => by
    have := hl c hc
    simp [isDig] at this
    simp
    intro e; subst e; simp at this
  unfold mant
  cases D with
  | nil => rfl
  | cons d ds =>
    have hds := hf ds (fun c hc => hd c (List.mem_cons_of_mem _ hc))
    have h1 := hf [d] (fun c hc => hd c (by simp at hc; simp [hc]))
    rw [List.filter_append]
    simp only [List.take_succ_cons, List.take_zero, List.drop_succ_cons, List.drop_zero]
    rw [h1]
    split
    · rw [List.filter_cons_of_neg (by decide), hds]; rfl
    · rename_i h
      have : ds = [] := by simpa using h
      subst this; rfl
theorem mant_no_e {D : List UInt8} (hd : ∀ c ∈ D, isDig c = true) : ∀ c ∈ mant D, (c != 101) = true := by
  intro c hc
  have hdig : ∀ c ∈ D, (c != 101) = true := fun c hc => by
    have := hd c hc
    simp [isDig] at this
    simp
    intro e; subst e; simp at this
  unfold mant at hc
  rcases List.mem_append.1 hc with hc | hc
  · exact hdig c (List.mem_of_mem_take hc)
  · split at hc
    · rcases List.mem_cons.1 hc with rfl | hc
      · decide
      · exact hdig c (List.mem_of_mem_drop hc)
    · cases hc
theorem take_mant {D : List UInt8} {p : Int} (hd : ∀ c ∈ D, isDig c = true) : (mant D ++ pow p).takeWhile (· != 101) = mant D := by
  have h1 := mant_no_e hd
  rw [List.takeWhile_append_of_pos h1]
  unfold pow
  split
  · simp
  · simp
theorem canonN_eq {x : Num} (h : x.2.1 ≠ []) : canonN x = (if x.1 = true then [45] else []) ++ (mant x.2.1 ++ pow x.2.2) := by
  unfold canonN mant pow
  rw [if_neg h]; simp [List.append_assoc]
theorem mant_head {D : List UInt8} {c : UInt8} {l r : List UInt8} (hne : D ≠ []) (hd : ∀ c ∈ D, isDig c = true) (h : mant D ++ l = c :: r) : isDig c = true ∧ D.head? = some c := by
  cases D with
  | nil => exact absurd rfl hne
  | cons d ds =>
    have : d = c := by simp [mant] at h; exact h.1
    subst this
    exact ⟨hd d (by simp), rfl⟩
theorem canon_inj {x y : Num} (hx : Shape x) (hy : Shape y) (h : canonN x = canonN y) : x.2.1 = y.2.1 ∧ (x.2.1 ≠ [] → x.1 = y.1 ∧ x.2.2 = y.2.2) := by
  have key : ∀ {x y : Num}, Shape x → Shape y → canonN x = canonN y → x.2.1 = [] → y.2.1 = [] := fun {x y} hx hy h h0 => by
    by_cases hy0 : y.2.1 = []
    · exact hy0
    · exfalso
      have h1 : canonN x = [48] := by unfold canonN; rw [if_pos h0]
      rw [h1, canonN_eq hy0] at h
      by_cases hb : y.1 = true
      · rw [if_pos hb] at h; simp at h
      · rw [if_neg hb, List.nil_append] at h
        exact hy.head (mant_head hy0 hy.dig h.symm).2
  by_cases hx0 : x.2.1 = []
  · exact ⟨by rw [hx0, key hx hy h hx0], fun hn => absurd hx0 hn⟩
  · have hy0 : y.2.1 ≠ [] := fun e => hx0 (key hy hx h.symm e)
    rw [canonN_eq hx0, canonN_eq hy0] at h
    have hm : mant x.2.1 ++ pow x.2.2 = mant y.2.1 ++ pow y.2.2 ∧ x.1 = y.1 := by
      cases hb1 : x.1 <;> cases hb2 : y.1 <;> rw [hb1, hb2] at h
      · exact ⟨by simpa using h, rfl⟩
      · exfalso
        have h2 : mant x.2.1 ++ pow x.2.2 = 45 :: (mant y.2.1 ++ pow y.2.2) := by simpa using h
        have := (mant_head hx0 hx.dig h2).1
        simp [isDig] at this
      · exfalso
        have h2 : mant y.2.1 ++ pow y.2.2 = 45 :: (mant x.2.1 ++ pow x.2.2) := by simpa using h.symm
        have := (mant_head hy0 hy.dig h2).1
        simp [isDig] at this
      · exact ⟨by simpa using h, rfl⟩
    have ht := congrArg (List.takeWhile (· != 101)) hm.1
    rw [take_mant hx.dig, take_mant hy.dig] at ht
    have hD : x.2.1 = y.2.1 := by rw [← mant_back hx.dig, ← mant_back hy.dig, ht]
    refine ⟨hD, fun _ => ⟨hm.2, ?_⟩⟩
    have hp : pow x.2.2 = pow y.2.2 := by
      have := hm.1
      rw [ht] at this
      exact List.append_cancel_left this
    unfold pow at hp
    split at hp <;> split at hp
    · exact itoa_inj (List.cons.inj hp).2
    · cases hp
    · cases hp
    · omega
theorem sign_eq {x y : Num} (hs : signN x = signN y) : (x.2.1 = [] ↔ y.2.1 = []) ∧ (x.2.1 ≠ [] → x.1 = y.1) := by
  unfold signN at hs
  by_cases hx : x.2.1 = [] <;> by_cases hy : y.2.1 = []
  · exact ⟨by simp [hx, hy], fun h => absurd hx h⟩
  · rw [if_pos hx, if_neg hy] at hs; split at hs <;> omega
  · rw [if_neg hx, if_pos hy] at hs; split at hs <;> omega
  · rw [if_neg hx, if_neg hy] at hs
    refine ⟨by simp [hx, hy], fun _ => ?_⟩
    cases h1 : x.1 <;> cases h2 : y.1 <;> simp [h1, h2] at hs ⊢
theorem num_canon {x y : Num} (hx : Shape x) (hy : Shape y) : (canonN x = canonN y) ↔ cmpNum x y = 0 := by
  constructor
  · intro h
    obtain ⟨hD, hr⟩ := canon_inj hx hy h
    by_cases h0 : x.2.1 = []
    · have : signN x = 0 ∧ signN y = 0 := by unfold signN; rw [if_pos h0, if_pos (by rw [← hD]; exact h0)]; exact ⟨rfl, rfl⟩
      unfold cmpNum; rw [this.1, this.2]; simp
    · obtain ⟨hb, hp⟩ := hr h0
      have hs : signN x = signN y := by unfold signN; rw [hD, hb]
      unfold cmpNum
      rw [if_neg (by simp [hs])]
      unfold sizeN
      rw [if_neg (by simp [hp]), hD, cb_self]; simp
  · intro h
    unfold cmpNum at h
    by_cases hs : signN x = signN y
    · rw [if_neg (by simp [hs])] at h
      obtain ⟨he, hb⟩ := sign_eq hs
      by_cases h0 : x.2.1 = []
      · unfold canonN; rw [if_pos h0, if_pos (he.1 h0)]
      · have hsn : signN x ≠ 0 := by unfold signN; rw [if_neg h0]; split <;> omega
        have hz : sizeN x y = 0 := by
          rcases Int.mul_eq_zero.1 h with h | h
          · exact absurd h hsn
          · exact h
        have hxy : x.2.2 = y.2.2 ∧ x.2.1 = y.2.1 := by
          unfold sizeN at hz
          by_cases hp : x.2.2 = y.2.2
          · rw [if_neg (by simp [hp])] at hz; exact ⟨hp, cb_zero hz⟩
          · rw [if_pos hp] at hz; exact absurd hz (ci_ne hp)
        rw [canonN_eq h0, canonN_eq (fun e => h0 (he.2 e)), hb h0, hxy.1, hxy.2]
    · rw [if_pos hs] at h
      exact absurd h (ci_ne hs)
theorem cmp_anti (a b : List UInt8) : cmpN b a = -cmpN a b := by
  unfold cmpN
  cases parseN a <;> cases parseN b
  · rfl
  · rfl
  · rfl
  · exact num_anti _ _
theorem cmp_trans3 {a b c : List UInt8} (ha : goodN a = true) (hb : goodN b = true) (hc : goodN c = true) {v : Int} (h1 : cmpN a b = v) (h2 : cmpN b c = v) : cmpN a c = v := by
  obtain ⟨x, hx⟩ := Option.isSome_iff_exists.1 ha
  obtain ⟨y, hy⟩ := Option.isSome_iff_exists.1 hb
  obtain ⟨z, hz⟩ := Option.isSome_iff_exists.1 hc
  unfold cmpN at *
  rw [hx, hy] at h1
  rw [hy, hz] at h2
  rw [hx, hz]
  exact num_trans h1 h2
theorem cmp_canon {a b : List UInt8} (ha : goodN a = true) (hb : goodN b = true) : ((canonS a).1 = (canonS b).1) ↔ cmpN a b = 0 := by
  obtain ⟨x, hx⟩ := Option.isSome_iff_exists.1 ha
  obtain ⟨y, hy⟩ := Option.isSome_iff_exists.1 hb
  unfold cmpN canonS
  rw [hx, hy]
  exact num_canon (parse_shape hx) (parse_shape hy)
end Go.Proofs.YtkdejdmmgjibmaaDoor
