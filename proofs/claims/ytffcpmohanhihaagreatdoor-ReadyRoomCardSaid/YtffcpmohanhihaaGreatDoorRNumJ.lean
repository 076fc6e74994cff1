/-
  The reference's reading of a number's text, in plain Lean, and that it is dec's. No condition.
-/
import Derived.Test.YtffcpmohanhihaaGreatDoorJ4
import Derived.Test.YtffcpmohanhihaaGreatDoorJ1
namespace Go.Proofs.YtffcpmohanhihaaGreatDoor
set_option linter.unusedVariables false
set_option linter.unusedSimpArgs false
/-- The digits among the bytes, as a number, as long as it is at most 100000. -/
def rAcc (v : Nat) : List UInt8 → Option Nat
  | [] => some v
  | c :: l => if isDig c = true then (if 100000 < v * 10 + (c.toNat - 48) then none else rAcc (v * 10 + (c.toNat - 48)) l) else rAcc v l
def rpowN (l : List UInt8) : Option Int := (rAcc 0 l).map fun v => if Lib.hasPrefix l [45] = true then -(v : Int) else v
theorem rAcc_dig {l : List UInt8} {k : Nat} {b : UInt8} (hb : l[k]? = some b) (hd : isDig b = true) (a : Nat) : rAcc a (l.drop k) = if 100000 < a * 10 + (b.toNat - 48) then none else rAcc (a * 10 + (b.toNat - 48)) (l.drop (k + 1)) := by
  obtain ⟨hk, rfl⟩ := List.getElem?_eq_some_iff.1 hb
  rw [List.drop_eq_getElem_cons hk, rAcc, if_pos hd]
theorem rAcc_not {l : List UInt8} {k : Nat} {b : UInt8} (hb : l[k]? = some b) (hd : isDig b = false) (a : Nat) : rAcc a (l.drop k) = rAcc a (l.drop (k + 1)) := by
  obtain ⟨hk, rfl⟩ := List.getElem?_eq_some_iff.1 hb
  rw [List.drop_eq_getElem_cons hk, rAcc, if_neg (by rw [hd]; simp)]
theorem rAcc_end (a : Nat) {l : List UInt8} {k : Nat} (hk : l.length ≤ k) : rAcc a (l.drop k) = some a := by rw [List.drop_of_length_le hk]; rfl
/-- May it stand behind an e: a sign or none, digits. -/
def formP (p : List UInt8) : Bool := decide (signed p ≠ []) && decide (digN (signed p) = (signed p).length)
/-- What stands behind the digits: nothing, or an e and what may stand there. -/
def tailN : List UInt8 → Option (List UInt8)
  | [] => some []
  | c :: p => if (c = 101 ∨ c = 69) ∧ formP p = true then some p else none
def partsN (l : List UInt8) : Option (Bool × List UInt8 × List UInt8 × List UInt8) :=
  if digN (Lib.trimPrefix l [45]) = 0 ∨ (1 < digN (Lib.trimPrefix l [45]) ∧ (Lib.trimPrefix l [45]).head? = some 48) then none else
  (partN ((Lib.trimPrefix l [45]).drop (digN (Lib.trimPrefix l [45])))).bind fun pr =>
  (tailN pr.2).map fun p => (Lib.hasPrefix l [45], (Lib.trimPrefix l [45]).take (digN (Lib.trimPrefix l [45])), pr.1, p)
theorem rAcc_digs {l : List UInt8} (h : digN l = l.length) (v : Nat) : rAcc v l = pwAcc v l := by
  induction l generalizing v with
  | nil => rfl
  | cons c l ih =>
    have hd := all_dig h 0 c rfl
    have hl : digN l = l.length := by rw [digN_cons, if_pos hd] at h; simpa using h
    unfold rAcc pwAcc
    rw [if_pos hd]
    split
    · rfl
    · exact ih hl _
theorem rpow_is {p : List UInt8} (h : formP p = true) : rpowN p = powerN p := by
  unfold formP at h
  simp only [Bool.and_eq_true, decide_eq_true_eq] at h
  obtain ⟨h1, h2⟩ := h
  have hr : rAcc 0 p = pwAcc 0 (signed p) := by
    rw [← rAcc_digs h2]
    unfold signed
    by_cases a : (Lib.hasPrefix p [45] || Lib.hasPrefix p [43]) = true
    · rw [if_pos a]
      cases p with
      | nil => simp [Lib.hasPrefix] at a
      | cons c p =>
        have hc : isDig c = false := by
          have : c = 45 ∨ c = 43 := by
            have a2 := a
            rw [Bool.or_eq_true] at a2
            rcases a2 with a | a
            · left; have : (45 : UInt8) = c := by simpa [Lib.hasPrefix] using a
              exact this.symm
            · right; have : (43 : UInt8) = c := by simpa [Lib.hasPrefix] using a
              exact this.symm
          rcases this with rfl | rfl <;> decide
        rw [rAcc, if_neg (by rw [hc]; simp)]; rfl
    · rw [if_neg a]
  unfold rpowN powerN
  rw [if_neg (by simp [h1, h2]), hr]
theorem powerN_form {p : List UInt8} (h : formP p = false) : powerN p = none := by
  unfold formP at h
  unfold powerN
  rw [if_pos]
  by_cases h1 : signed p = []
  · exact .inl h1
  · right; intro h2; simp [h1, h2] at h
/-- dec's reading, out of the reference's. -/
theorem parse_parts {l : List UInt8} (hl : l.length ≤ 400) : parseN l = (partsN l).bind fun q => (rpowN q.2.2.2).map fun e => normN q.1 q.2.1 q.2.2.1 e := by
  unfold parseN partsN
  rw [if_neg (by omega)]
  by_cases hc : digN (Lib.trimPrefix l [45]) = 0 ∨ (1 < digN (Lib.trimPrefix l [45]) ∧ (Lib.trimPrefix l [45]).head? = some 48)
  · rw [if_pos hc, if_pos hc]; rfl
  · rw [if_neg hc, if_neg hc]
    cases partN ((Lib.trimPrefix l [45]).drop (digN (Lib.trimPrefix l [45]))) with
    | none => rfl
    | some pr =>
      show (expN pr.2).map _ = ((tailN pr.2).map _).bind _
      cases hq : pr.2 with
      | nil => rfl
      | cons c p =>
        by_cases he : c = 101 ∨ c = 69
        · have e1 : expN (c :: p) = powerN p := if_pos he
          cases hf : formP p
          · have e2 : tailN (c :: p) = none := if_neg (by rw [hf]; simp)
            rw [e1, e2, powerN_form hf]; rfl
          · have e2 : tailN (c :: p) = some p := if_pos ⟨he, hf⟩
            rw [e1, e2, ← rpow_is hf]; rfl
        · have e1 : expN (c :: p) = none := if_neg he
          have e2 : tailN (c :: p) = none := if_neg (fun h => he h.1)
          rw [e1, e2]; rfl
theorem rAcc_le {v a : Nat} {l : List UInt8} (hv : v ≤ 100000) (h : rAcc v l = some a) : a ≤ 100000 := by
  induction l generalizing v with
  | nil => simp [rAcc] at h; omega
  | cons c l ih =>
    unfold rAcc at h
    split at h
    · split at h
      · cases h
      · exact ih (by omega) h
    · exact ih hv h
theorem rpow_range {l : List UInt8} {e : Int} (h : (rpowN l).getD 0 = e) : -100000 ≤ e ∧ e ≤ 100000 := by
  unfold rpowN at h
  cases hp : rAcc 0 l with
  | none => rw [hp] at h; simp at h; omega
  | some a =>
    rw [hp] at h
    have := rAcc_le (by omega) hp
    simp at h
    split at h <;> omega
theorem parts_len {l : List UInt8} {q : Bool × List UInt8 × List UInt8 × List UInt8} (h : partsN l = some q) : q.2.1.length ≤ l.length ∧ q.2.2.1.length ≤ l.length ∧ q.2.2.2.length ≤ l.length := by
  unfold partsN at h
  split at h
  · cases h
  obtain ⟨pr, hpr, h⟩ := Option.bind_eq_some_iff.1 h
  obtain ⟨p, hp, h⟩ := Option.map_eq_some_iff.1 h
  subst h
  have hR := Lib.trimPrefix_le l [45]
  have h2 : pr.1.length ≤ l.length ∧ pr.2.length ≤ l.length := by
    unfold partN at hpr
    split at hpr
    · split at hpr
      · cases hpr
      · cases hpr
        simp only [List.length_take, List.length_drop]; omega
    · cases hpr
      simp only [List.length_nil, List.length_drop]; omega
  have h3 : p.length ≤ pr.2.length := by
    cases hq : pr.2 with
    | nil => rw [hq] at hp; cases hp; simp
    | cons c r =>
      rw [hq] at hp
      have e : tailN (c :: r) = if (c = 101 ∨ c = 69) ∧ formP r = true then some r else none := rfl
      rw [e] at hp
      split at hp
      · cases hp; simp
      · cases hp
  refine ⟨?_, h2.1, Nat.le_trans h3 h2.2⟩
  simp only [List.length_take]; omega
def minus (b : Bool) : List UInt8 := if b = true then [45] else []
theorem no_trim {l : List UInt8} (h : Lib.hasPrefix l [45] = false) : Lib.trimPrefix l [45] = l := by unfold Lib.trimPrefix; rw [if_neg (by simp [h])]
def valV : List UInt8 → Nat
  | [] => 0
  | c :: l => (c.toNat - 48) * 10 ^ l.length + valV l
theorem fold_val (acc : Nat) (l : List UInt8) : l.foldl (fun a c => a * 10 + (c.toNat - 48)) acc = acc * 10 ^ l.length + valV l := by
  induction l generalizing acc with
  | nil => simp [valV]
  | cons c l ih =>
    rw [List.foldl_cons, ih, valV, List.length_cons, Nat.pow_succ, Nat.add_mul]
    have : acc * 10 * 10 ^ l.length = acc * (10 ^ l.length * 10) := by rw [Nat.mul_assoc, Nat.mul_comm 10]
    omega
theorem dig_range {c : UInt8} (h : isDig c = true) : 48 ≤ c.toNat ∧ c.toNat ≤ 57 := by simp [isDig] at h; exact h
theorem val_mono (acc : Nat) (l : List UInt8) : acc ≤ l.foldl (fun a c => a * 10 + (c.toNat - 48)) acc := by
  rw [fold_val]
  have : 1 ≤ 10 ^ l.length := Nat.one_le_pow _ _ (by omega)
  have := Nat.le_mul_of_pos_right acc this
  omega
theorem uint_is {l : List UInt8} (hd : ∀ c ∈ l, isDig c = true) (acc : Nat) (h : l.foldl (fun a c => a * 10 + (c.toNat - 48)) acc ≤ 18446744073709551615) :
    Lib.parseUintM 18446744073709551615 acc l = .ok (l.foldl (fun a c => a * 10 + (c.toNat - 48)) acc) := by
  induction l generalizing acc with
  | nil => rfl
  | cons c l ih =>
    have hc := dig_range (hd c (by simp))
    have hm := val_mono (acc * 10 + (c.toNat - 48)) l
    rw [List.foldl_cons] at h ⊢
    unfold Lib.parseUintM
    rw [if_pos hc, if_neg (by omega), if_neg (by omega)]
    exact ih (fun c hc => hd c (List.mem_cons_of_mem _ hc)) _ h
theorem noAny {l cs : List UInt8} (h : ∀ c ∈ l, cs.contains c = false) : Lib.containsAny l cs = false := by
  have key : Lib.indexAny l cs = -1 := by
    induction l with
    | nil => rfl
    | cons c l ih =>
      unfold Lib.indexAny
      rw [if_neg (by rw [h c (by simp)]; simp), ih (fun c hc => h c (List.mem_cons_of_mem _ hc))]
      rfl
  unfold Lib.containsAny
  rw [key]; rfl
abbrev decF : Nat → UInt8 → Nat := fun a c => a * 10 + (c.toNat - 48)
theorem down_test {a x : Int} (hx : 0 ≤ x) (hx9 : x ≤ 9) : Int.tdiv (-9223372036854775808 + x) 10 = -((9223372036854775808 - x) / 10) := by
  rw [show (-9223372036854775808 + x : Int) = -(9223372036854775808 - x) by omega, Int.neg_tdiv, Int.tdiv_eq_ediv_of_nonneg (by omega)]
theorem uint_over {l : List UInt8} (hd : ∀ c ∈ l, isDig c = true) (acc : Nat) (ha : acc ≤ 18446744073709551615) (h : 18446744073709551615 < l.foldl decF acc) : Lib.parseUintM 18446744073709551615 acc l = .range := by
  induction l generalizing acc with
  | nil => simp at h; omega
  | cons c l ih =>
    have hc := dig_range (hd c (by simp))
    rw [List.foldl_cons] at h
    unfold Lib.parseUintM
    rw [if_pos hc]
    by_cases h1 : 1844674407370955162 ≤ acc
    · rw [if_pos h1]
    · rw [if_neg h1]
      by_cases h2 : 18446744073709551615 < acc * 10 + (c.toNat - 48)
      · rw [if_pos h2]
      · rw [if_neg h2]
        exact ih (fun c hc => hd c (List.mem_cons_of_mem _ hc)) _ (by omega) h
theorem uintB_is {l : List UInt8} (hd : ∀ c ∈ l, isDig c = true) (hne : l ≠ []) : Lib.parseUintB 64 l = if l.foldl decF 0 ≤ 18446744073709551615 then .ok (l.foldl decF 0) else .range := by
  unfold Lib.parseUintB
  rw [if_neg hne]
  by_cases h : l.foldl decF 0 ≤ 18446744073709551615
  · rw [if_pos h]; exact uint_is hd 0 h
  · rw [if_neg h]; exact uint_over hd 0 (by omega) (by omega)
theorem parseInt_lit (b : Bool) {D : List UInt8} (hd : ∀ c ∈ D, isDig c = true) (hne : D ≠ []) :
    (match Lib.parseIntB 64 (minus b ++ D) with | .ok v => some v | _ => none) = if b = true then (if D.foldl decF 0 ≤ 9223372036854775808 then some (-(D.foldl decF 0 : Nat) : Int) else none) else (if D.foldl decF 0 < 9223372036854775808 then some ((D.foldl decF 0 : Nat) : Int) else none) := by
  have hu := uintB_is hd hne
  cases b
  · have hm : minus false = [] := rfl
    rw [hm, List.nil_append]
    cases hq : D with
    | nil => exact absurd hq hne
    | cons c r =>
      have hc := dig_range (hd c (by rw [hq]; simp))
      rw [hq] at hu
      have e45 : ¬ c.toNat = 45 := by omega
      unfold Lib.parseIntB
      simp only
      rw [if_neg (show ¬ (c.toNat = 43 ∨ c.toNat = 45) by omega), hu]
      by_cases h : (c :: r).foldl decF 0 ≤ 18446744073709551615
      · rw [if_pos h]
        simp only [e45, not_false_eq_true, true_and, false_and, if_false]
        by_cases h2 : (c :: r).foldl decF 0 < 9223372036854775808
        · rw [if_neg (by omega), if_pos h2]; rfl
        · rw [if_pos (by omega), if_neg h2]; rfl
      · rw [if_neg h, if_neg (show ¬ (c :: r).foldl decF 0 < 9223372036854775808 by omega)]; rfl
  · have hm : minus true = [45] := rfl
    rw [hm]
    show (match Lib.parseIntB 64 (45 :: D) with | .ok v => some v | _ => none) = _
    unfold Lib.parseIntB
    simp only [show (45 : UInt8).toNat = 45 from rfl]
    rw [if_pos (.inr trivial), hu]
    by_cases h : D.foldl decF 0 ≤ 18446744073709551615
    · rw [if_pos h]
      simp only [not_true_eq_false, false_and, if_false, true_and, if_true]
      by_cases h2 : D.foldl decF 0 ≤ 9223372036854775808
      · rw [if_neg (by omega), if_pos h2]
      · rw [if_pos (by omega), if_neg h2]
    · rw [if_neg h]
      simp only [if_true]
      rw [if_neg (show ¬ D.foldl decF 0 ≤ 9223372036854775808 by omega)]
theorem any_mem {l cs : List UInt8} {c : UInt8} (hc : c ∈ l) (h : cs.contains c = true) : Lib.containsAny l cs = true := by
  have key : 0 ≤ Lib.indexAny l cs := by
    induction l with
    | nil => cases hc
    | cons a l ih =>
      unfold Lib.indexAny
      split
      · omega
      · rename_i hn
        rcases List.mem_cons.1 hc with rfl | hc
        · exact absurd h hn
        · have := ih hc
          have hne : (Lib.indexAny l cs == -1) = false := by
            cases hq : (Lib.indexAny l cs == -1)
            · rfl
            · have := eq_of_beq hq; omega
          rw [hne]; simp; omega
  unfold Lib.containsAny
  exact decide_eq_true key
theorem trim_back (l : List UInt8) : l = minus (Lib.hasPrefix l [45]) ++ Lib.trimPrefix l [45] := by
  cases h : Lib.hasPrefix l [45]
  · rw [no_trim h]; rfl
  · have e := prefix_one h
    unfold Lib.trimPrefix
    rw [h]
    exact e
/-- What stands in a text that parts reads. -/
theorem parts_in {l : List UInt8} {b : Bool} {W P p : List UInt8} (h : partsN l = some (b, W, P, p)) : (∀ c ∈ W, isDig c = true) ∧ W ≠ [] ∧ (P = [] → p = [] → l = minus b ++ W) ∧ (P ≠ [] → (46 : UInt8) ∈ l) ∧ (p ≠ [] → (101 : UInt8) ∈ l ∨ (69 : UInt8) ∈ l) := by
  have hb := trim_back l
  unfold partsN at h
  split at h
  · cases h
  rename_i hc
  obtain ⟨pr, hpr, h⟩ := Option.bind_eq_some_iff.1 h
  obtain ⟨q, hq, h⟩ := Option.map_eq_some_iff.1 h
  simp only [Prod.mk.injEq] at h
  obtain ⟨rfl, rfl, rfl, rfl⟩ := h
  have hR := List.take_append_drop (digN (Lib.trimPrefix l [45])) (Lib.trimPrefix l [45])
  have hn : digN (Lib.trimPrefix l [45]) ≠ 0 := fun e => hc (.inl e)
  generalize Lib.trimPrefix l [45] = R at *
  have hmem : ∀ c ∈ R.drop (digN R), c ∈ l := fun c hc => by rw [hb]; exact List.mem_append_right _ (List.mem_of_mem_drop hc)
  have hrest : (∀ c ∈ pr.2, c ∈ l) ∧ (pr.1 ≠ [] → (46 : UInt8) ∈ l) ∧ (pr.1 = [] → pr.2 = R.drop (digN R)) := by
    generalize hr : R.drop (digN R) = r at *
    unfold partN at hpr
    split at hpr
    · rename_i h46
      split at hpr
      · cases hpr
      · rename_i hk
        cases hpr
        have e := prefix_one h46
        refine ⟨fun c hc => hmem c (List.mem_of_mem_drop hc), fun _ => hmem 46 (by rw [e]; simp), fun h0 => ?_⟩
        exfalso
        have := congrArg List.length h0
        simp only [List.length_take, List.length_nil] at this
        have := digN_le (r.drop 1)
        omega
    · cases hpr
      exact ⟨hmem, fun h0 => absurd rfl h0, fun _ => rfl⟩
  have hl := digN_le R
  refine ⟨fun c hc => ?_, fun e => ?_, fun h1 h2 => ?_, hrest.2.1, fun h2 => ?_⟩
  · rw [take_dig] at hc; exact takeWhile_all hc
  · have := congrArg List.length e
    simp only [List.length_take, List.length_nil] at this
    omega
  · have h3 := hrest.2.2 h1
    have h4 : pr.2 = [] := by
      cases hp2 : pr.2 with
      | nil => rfl
      | cons c t =>
        rw [hp2] at hq
        have e : tailN (c :: t) = if (c = 101 ∨ c = 69) ∧ formP t = true then some t else none := rfl
        rw [e] at hq
        split at hq
        · rename_i hf
          cases hq
          rw [h2] at hf
          exact absurd hf.2 (by decide)
        · cases hq
    rw [h4] at h3
    rw [← h3, List.append_nil] at hR
    rw [hR]
    exact hb
  · cases hp2 : pr.2 with
    | nil =>
      rw [hp2] at hq
      have e : tailN [] = some [] := rfl
      rw [e] at hq; cases hq
      exact absurd rfl h2
    | cons c t =>
      have hcl := hrest.1 c (by rw [hp2]; simp)
      rw [hp2] at hq
      have e : tailN (c :: t) = if (c = 101 ∨ c = 69) ∧ formP t = true then some t else none := rfl
      rw [e] at hq
      split at hq
      · rename_i hf
        rcases hf.1 with rfl | rfl
        · exact .inl hcl
        · exact .inr hcl
      · cases hq
end Go.Proofs.YtffcpmohanhihaaGreatDoor
