/-
  A number with a power behind it, in plain Lean: powers add up, noughts change nothing. No condition beside that the power is small enough.
-/
import Derived.Test.YtkdejdmmgjibmaaDoorDecNum2
namespace Go.Proofs.YtkdejdmmgjibmaaDoor
set_option linter.unusedVariables false
set_option linter.unusedSimpArgs false
theorem pw_is {l : List UInt8} (v : Nat) (h : l.foldl (fun a c => a * 10 + (c.toNat - 48)) v ≤ 100000) : pwAcc v l = some (l.foldl (fun a c => a * 10 + (c.toNat - 48)) v) := by
  induction l generalizing v with
  | nil => rfl
  | cons c l ih =>
    have hm := val_mono (v * 10 + (c.toNat - 48)) l
    rw [List.foldl_cons] at h ⊢
    unfold pwAcc
    rw [if_neg (by omega)]
    exact ih _ h
theorem all_digN {l : List UInt8} (h : ∀ c ∈ l, isDig c = true) : digN l = l.length := by
  have := digN_app (T := []) h (fun c hc => by cases hc)
  rw [List.append_nil] at this
  exact this
theorem pow_itoa {p : Int} (h0 : -100000 ≤ p) (h1 : p ≤ 100000) : powerN (Lib.itoa p) = some p := by
  have hd := dec_lit p.natAbs
  have hv : digVal (numD p) = p.natAbs := (dec_facts _).1
  have hp : pwAcc 0 (numD p) = some p.natAbs := by
    have := pw_is (l := numD p) 0 (show digVal (numD p) ≤ 100000 by omega)
    rw [this]
    exact congrArg some hv
  have hdn : digN (numD p) = (numD p).length := all_digN hd.1.dig
  rw [itoa_is]
  by_cases hn : p < 0
  · have hm : minus (decide (p < 0)) = [45] := by simp [minus, hn]
    rw [hm]
    show powerN (45 :: numD p) = some p
    have h45 : Lib.hasPrefix (45 :: numD p) [45] = true := by simp [Lib.hasPrefix]
    have hs : signed (45 :: numD p) = numD p := by unfold signed; rw [h45]; rfl
    rw [powerN_is hs h45 hd.1.ne hdn, hp]
    simp; omega
  · have hm : minus (decide (p < 0)) = [] := by simp [minus, hn]
    rw [hm, List.nil_append]
    show powerN (numD p) = some p
    have hc : ∀ k : UInt8, (∀ c : UInt8, isDig c = true → c ≠ k) → Lib.hasPrefix (numD p) [k] = false := fun k hk => by
      cases h : Lib.hasPrefix (numD p) [k]
      · rfl
      · exfalso
        cases hq : numD p with
        | nil => exact hd.1.ne hq
        | cons d ds =>
          rw [hq] at h
          have : k = d := by simpa [Lib.hasPrefix] using h
          exact hk d (hd.1.dig d (by rw [show Lib.decDigits p.natAbs = numD p from rfl, hq]; simp)) this.symm
    have h45 := hc 45 (fun c h e => by subst e; simp [isDig] at h)
    have h43 := hc 43 (fun c h e => by subst e; simp [isDig] at h)
    have hs : signed (numD p) = numD p := by unfold signed; rw [h45, h43]; rfl
    rw [powerN_is hs h45 hd.1.ne hdn, hp]
    simp; omega
theorem exp_e {p : Int} (h0 : -100000 ≤ p) (h1 : p ≤ 100000) : expN (101 :: Lib.itoa p) = some p ∧ expN (69 :: Lib.itoa p) = some p := by
  have e1 : expN (101 :: Lib.itoa p) = if (101 : UInt8) = 101 ∨ (101 : UInt8) = 69 then powerN (Lib.itoa p) else none := rfl
  have e2 : expN (69 :: Lib.itoa p) = if (69 : UInt8) = 101 ∨ (69 : UInt8) = 69 then powerN (Lib.itoa p) else none := rfl
  rw [e1, e2, if_pos (.inl rfl), if_pos (.inr rfl)]
  exact ⟨pow_itoa h0 h1, pow_itoa h0 h1⟩
theorem part_e (c : UInt8) (hc : c ≠ 46) (r : List UInt8) : partN (c :: r) = some ([], c :: r) := by
  unfold partN
  rw [if_neg]
  have : ((46 : UInt8) == c) = false := by simpa using Ne.symm hc
  simp [Lib.hasPrefix, List.isPrefixOf, this]
theorem zeros_dig (k : Nat) : ∀ c ∈ List.replicate k (48 : UInt8), isDig c = true := fun c hc => by
  obtain rfl := List.eq_of_mem_replicate hc; decide
theorem parse_x {n p : Int} (hl : (numD n).length + (Lib.itoa p).length ≤ 300) (h0 : -100000 ≤ p) (h1 : p ≤ 100000) : parseN (Lib.itoa n ++ 101 :: Lib.itoa p) = some (numOf n p) := by
  rw [itoa_tail n (fun c hc => by simp at hc; subst hc; decide) (by simp; omega), part_e _ (by decide)]
  show (expN (101 :: Lib.itoa p)).map _ = _
  rw [(exp_e h0 h1).1]; rfl
theorem parse_y {n p : Int} {k : Nat} (hn : n ≠ 0) (hl : (numD n).length + k + (Lib.itoa p).length ≤ 300) (h0 : -100000 ≤ p) (h1 : p ≤ 100000) : parseN (Lib.itoa n ++ (List.replicate k 48 ++ 101 :: Lib.itoa p)) = some (numOf n (p + k)) := by
  have hd := dec_lit n.natAbs
  have h48 := hd.2 (by omega)
  rw [itoa_is, List.append_assoc, ← List.append_assoc (Lib.decDigits n.natAbs)]
  rw [parse_lit (D := Lib.decDigits n.natAbs ++ List.replicate k 48) (T := 101 :: Lib.itoa p) _ (fun c hc => by
    rcases List.mem_append.1 hc with hc | hc
    · exact hd.1.dig c hc
    · exact zeros_dig k c hc) (by simp [hd.1.ne]) (fun _ => head_app hd.1.ne h48) (fun c hc => by simp at hc; subst hc; decide) (by
      simp only [List.length_append, List.length_replicate, List.length_cons]
      show 1 + ((numD n).length + k) + _ ≤ 400
      omega), part_e _ (by decide)]
  show (expN (101 :: Lib.itoa p)).map _ = _
  rw [(exp_e h0 h1).1]
  show some (normN _ _ [] p) = _
  rw [norm_more _ hd.1 h48]; rfl
theorem parse_z {n p : Int} {k : Nat} (hl : (numD n).length + k + (Lib.itoa p).length ≤ 300) (h0 : -100000 ≤ p) (h1 : p ≤ 100000) : parseN (Lib.itoa n ++ (46 :: (List.replicate (k + 1) 48 ++ 69 :: Lib.itoa p))) = some (numOf n p) := by
  rw [itoa_tail n (fun c hc => by simp at hc; subst hc; decide) (by simp; omega)]
  have hp : partN (46 :: (List.replicate (k + 1) 48 ++ 69 :: Lib.itoa p)) = some (List.replicate (k + 1) 48, 69 :: Lib.itoa p) := by
    unfold partN
    have hdg : digN ((46 :: (List.replicate (k + 1) 48 ++ 69 :: Lib.itoa p)).drop 1) = k + 1 := by
      show digN (List.replicate (k + 1) 48 ++ 69 :: Lib.itoa p) = k + 1
      rw [digN_app (zeros_dig _) (fun c hc => by simp at hc; subst hc; decide)]; simp
    rw [if_pos (by simp [Lib.hasPrefix]), hdg, if_neg (by omega)]
    show some ((List.replicate (k + 1) 48 ++ 69 :: Lib.itoa p).take (k + 1), (List.replicate (k + 1) 48 ++ 69 :: Lib.itoa p).drop (k + 1)) = _
    rw [List.take_left' (by simp), List.drop_left' (by simp)]
  rw [hp]
  show (expN (69 :: Lib.itoa p)).map _ = _
  rw [(exp_e h0 h1).2]
  show some (normN _ _ (List.replicate (k + 1) 48) p) = _
  rw [norm_zeros _ (dec_lit _).1]; rfl
theorem numOf_at {n : Int} (h : n ≠ 0) (e : Int) : numOf n e = (decide (n < 0), Lib.trimRightB (numD n) 48, e + (((numD n).length : Int) - 1)) := by
  have hd := dec_lit n.natAbs
  have h0 := hd.2 (by omega)
  have h2 : Lib.trimLeftB (numD n ++ []) 48 = numD n := by rw [List.append_nil]; exact trimL_head h0
  unfold numOf normN
  rw [h2, if_neg hd.1.ne]
  simp only [List.length_append, List.length_nil]
  congr 2; omega
theorem zero_at (e : Int) : numOf 0 e = (false, [], 0) := by
  unfold numOf normN numD
  rw [show Lib.decDigits (Int.natAbs 0) = [48] from Lib.decDigits_one (by decide)]; rfl
theorem next_power {n : Int} (h : n ≠ 0) (e : Int) : cmpNum (numOf n e) (numOf n (e + 1)) = -1 ∨ cmpNum (numOf n e) (numOf n (e + 1)) = 1 := by
  have hne := (numOf_full h).2
  rw [numOf_at h, numOf_at h]
  have hs : ∀ p q : Int, signN (decide (n < 0), Lib.trimRightB (numD n) 48, p) = signN (decide (n < 0), Lib.trimRightB (numD n) 48, q) := fun p q => rfl
  unfold cmpNum
  rw [if_neg (by simp [hs _ (e + 1 + (((numD n).length : Int) - 1))])]
  have hz : sizeN (decide (n < 0), Lib.trimRightB (numD n) 48, e + (((numD n).length : Int) - 1)) (decide (n < 0), Lib.trimRightB (numD n) 48, e + 1 + (((numD n).length : Int) - 1)) = -1 := by
    unfold sizeN
    rw [if_pos (by simp only; omega)]
    exact ci_lt (by simp only; omega)
  rw [hz]
  unfold signN
  simp only
  rw [if_neg hne]
  split
  · right; rfl
  · left; rfl
end Go.Proofs.YtkdejdmmgjibmaaDoor
