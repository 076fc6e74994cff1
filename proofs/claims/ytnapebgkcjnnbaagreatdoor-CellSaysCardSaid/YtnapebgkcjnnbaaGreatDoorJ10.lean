/-
  A whole number's text is read back as that number, in plain Lean. No condition.
  What was written into a cell is read back, in plain Lean. No condition.
-/
import Derived.Test.YtnapebgkcjnnbaaGreatDoorJ6
import Derived.Lib.ItoaLen
import Derived.Test.YtnapebgkcjnnbaaGreatDoorJ8
namespace Go.Proofs.YtnapebgkcjnnbaaGreatDoor
set_option linter.unusedVariables false
set_option linter.unusedSimpArgs false
/-- The number that digits say. -/
def digVal (l : List UInt8) : Nat := l.foldl (fun a c => a * 10 + (c.toNat - 48)) 0
theorem digVal_snoc (l : List UInt8) (c : UInt8) : digVal (l ++ [c]) = digVal l * 10 + (c.toNat - 48) := by simp [digVal]
theorem dig_nat {k : Nat} (h : k < 10) : (UInt8.ofNat (48 + k)).toNat = 48 + k := by simp; omega
theorem dec_facts (u : Nat) : digVal (Lib.decDigits u) = u ∧ (∀ c ∈ Lib.decDigits u, isDig c = true) ∧ Lib.decDigits u ≠ [] := by
  induction u using Nat.strongRecOn with
  | ind u ih =>
    rw [Lib.decDigits]
    split
    · rename_i h
      refine ⟨by simp [digVal]; omega, fun c hc => ?_, by simp⟩
      obtain rfl := List.mem_singleton.1 hc
      simp only [isDig, dig_nat h]; simp; omega
    · rename_i h
      obtain ⟨i1, i2, i3⟩ := ih (u / 10) (by omega)
      refine ⟨by rw [digVal_snoc, i1, dig_nat (by omega)]; omega, fun c hc => ?_, by simp⟩
      rcases List.mem_append.1 hc with hc | hc
      · exact i2 c hc
      · obtain rfl := List.mem_singleton.1 hc
        have hm : u % 10 < 10 := by omega
        simp only [isDig, dig_nat hm]; simp; omega
theorem dec_not_minus (u : Nat) (l : List UInt8) : Lib.decDigits u ≠ 45 :: l := fun h => by
  have := (dec_facts u).2.1 45 (by rw [h]; simp)
  simp [isDig] at this
theorem digN_app {D T : List UInt8} (hd : ∀ c ∈ D, isDig c = true) (hT : ∀ c, T.head? = some c → isDig c = false) : digN (D ++ T) = D.length := by
  induction D with
  | nil =>
    cases T with
    | nil => rfl
    | cons c T => rw [List.nil_append, digN_cons, if_neg (by rw [hT c rfl]; simp)]; rfl
  | cons d D ih =>
    rw [List.cons_append, digN_cons, if_pos (hd d (by simp)), ih (fun c hc => hd c (List.mem_cons_of_mem _ hc))]
    rfl
theorem dig_not_minus {c : UInt8} (h : isDig c = true) : c ≠ 45 := fun e => by subst e; simp [isDig] at h
theorem parse_lit (b : Bool) {D T : List UInt8} (hd : ∀ c ∈ D, isDig c = true) (hne : D ≠ []) (hlead : 1 < D.length → D.head? ≠ some 48) (hT : ∀ c, T.head? = some c → isDig c = false) (hlen : 1 + D.length + T.length ≤ 400) :
    parseN (minus b ++ (D ++ T)) = (partN T).bind fun pr => (expN pr.2).map fun e => normN b D pr.1 e := by
  have hdn := digN_app hd hT
  have hpos : 0 < D.length := List.length_pos_iff.2 hne
  obtain ⟨d, ds, hD⟩ : ∃ d ds, D = d :: ds := by
    cases D with
    | nil => exact absurd rfl hne
    | cons d ds => exact ⟨d, ds, rfl⟩
  have hd45 := dig_not_minus (hd d (by rw [hD]; simp))
  have h1 : Lib.hasPrefix (minus b ++ (D ++ T)) [45] = b := by
    cases b
    · have h45 := Ne.symm hd45
      have hb : ((45 : UInt8) == d) = false := by simpa using h45
      simp [minus, hD, Lib.hasPrefix, List.isPrefixOf, hb]
    · simp [minus, Lib.hasPrefix]
  have h2 : Lib.trimPrefix (minus b ++ (D ++ T)) [45] = D ++ T := by
    unfold Lib.trimPrefix
    rw [h1]
    cases b <;> simp [minus]
  have h3 : ¬ 400 < (minus b ++ (D ++ T)).length := by
    simp only [List.length_append]
    have : (minus b).length ≤ 1 := by unfold minus; split <;> simp
    omega
  unfold parseN
  rw [if_neg h3, h2, h1, hdn, List.take_left, List.drop_left]
  rw [if_neg ?_]
  rintro (h | ⟨h, h'⟩)
  · omega
  · refine hlead h ?_
    rw [hD] at h' ⊢
    simpa using h'
structure Lit (D : List UInt8) : Prop where
  dig : ∀ c ∈ D, isDig c = true
  ne : D ≠ []
  lead : 1 < D.length → D.head? ≠ some 48
theorem head_app {D l : List UInt8} (hne : D ≠ []) (h : D.head? ≠ some 48) : (D ++ l).head? ≠ some 48 := by
  cases D with
  | nil => exact absurd rfl hne
  | cons d ds => simpa using h
theorem dec_lit (u : Nat) : Lit (Lib.decDigits u) ∧ (u ≠ 0 → (Lib.decDigits u).head? ≠ some 48) := by
  have key : ∀ u, u ≠ 0 → (Lib.decDigits u).head? ≠ some 48 := fun u => by
    induction u using Nat.strongRecOn with
    | ind u ih =>
      intro h0
      rw [Lib.decDigits]
      split
      · rename_i h
        simp only [List.head?_cons, ne_eq, Option.some.injEq]
        intro e
        have := congrArg UInt8.toNat e
        rw [dig_nat h] at this
        have : 48 + u = 48 := this
        omega
      · rename_i h
        exact head_app (dec_facts (u / 10)).2.2 (ih (u / 10) (by omega) (by omega))
  refine ⟨⟨(dec_facts u).2.1, (dec_facts u).2.2, fun hl => ?_⟩, key u⟩
  by_cases h : u = 0
  · subst h; rw [Lib.decDigits_one (by omega)] at hl; simp at hl
  · exact key u h
theorem itoa_is (n : Int) : Lib.itoa n = minus (decide (n < 0)) ++ Lib.decDigits n.natAbs := by
  unfold Lib.itoa minus
  by_cases h : n < 0
  · rw [if_pos h, if_pos (by simp [h])]; rfl
  · rw [if_neg h, if_neg (by simp [h]), List.nil_append]
    congr 1; omega
abbrev numD (n : Int) : List UInt8 := Lib.decDigits n.natAbs
/-- What an int's text says, with a tail. -/
theorem itoa_tail (n : Int) {T : List UInt8} (hT : ∀ c, T.head? = some c → isDig c = false) (hlen : 1 + (numD n).length + T.length ≤ 400) :
    parseN (Lib.itoa n ++ T) = (partN T).bind fun pr => (expN pr.2).map fun e => normN (decide (n < 0)) (numD n) pr.1 e := by
  rw [itoa_is, List.append_assoc]
  obtain ⟨h, _⟩ := dec_lit n.natAbs
  exact parse_lit _ h.dig h.ne h.lead hT hlen
def numOf (n : Int) (e : Int) : Num := normN (decide (n < 0)) (numD n) [] e
theorem parse_itoa {n : Int} (hl : (numD n).length ≤ 300) : parseN (Lib.itoa n) = some (numOf n 0) := by
  have h := itoa_tail n (T := []) (fun c hc => by cases hc) (by simp; omega)
  rw [List.append_nil] at h
  rw [h]; rfl
theorem parseInt_itoa {n : Int} (h0 : -9223372036854775808 ≤ n) (h1 : n ≤ 9223372036854775807) : Lib.parseIntB 64 (Lib.itoa n) = .ok n := by
  have hd := dec_lit n.natAbs
  have hv : digVal (numD n) = n.natAbs := (dec_facts _).1
  have hu : Lib.parseUintB 64 (numD n) = .ok n.natAbs := by
    unfold Lib.parseUintB
    rw [if_neg hd.1.ne]
    have := uint_is hd.1.dig 0 (show digVal (numD n) ≤ _ by omega)
    rw [← hv]
    exact this
  rw [itoa_is]
  by_cases hn : n < 0
  · have hm : minus (decide (n < 0)) = [45] := by simp [minus, hn]
    rw [hm]
    show Lib.parseIntB 64 (45 :: numD n) = _
    unfold Lib.parseIntB
    simp only [show (45 : UInt8).toNat = 45 from rfl]
    rw [if_pos (.inr trivial), hu]
    simp only [not_true_eq_false, false_and, if_false, true_and, if_true]
    rw [if_neg (by omega)]
    congr 1; omega
  · have hm : minus (decide (n < 0)) = [] := by simp [minus, hn]
    rw [hm, List.nil_append]
    cases hq : Lib.decDigits n.natAbs with
    | nil => exact absurd hq hd.1.ne
    | cons c r =>
      have hc := dig_range (hd.1.dig c (by rw [hq]; simp))
      unfold Lib.parseIntB
      simp only
      have e45 : ¬ c.toNat = 45 := by omega
      rw [if_neg (by omega), ← hq, show Lib.decDigits n.natAbs = numD n from rfl, hu]
      simp only [e45, not_false_eq_true, true_and, false_and, if_false]
      rw [if_neg (by omega)]
      congr 1; omega
theorem int_itoa {n : Int} (h0 : -9223372036854775808 ≤ n) (h1 : n ≤ 9223372036854775807) (hl : (numD n).length ≤ 300) : intN (Lib.itoa n) = some n := by
  have hd := dec_lit n.natAbs
  unfold intN
  rw [if_pos ?_, parseInt_itoa h0 h1]
  refine ⟨by unfold goodN; rw [parse_itoa hl]; rfl, noAny fun c hc => ?_, fun e => ?_⟩
  · rw [itoa_is] at hc
    rcases List.mem_append.1 hc with hc | hc
    · unfold minus at hc
      split at hc
      · obtain rfl := List.mem_singleton.1 hc; decide
      · cases hc
    · have := dig_range (hd.1.dig c hc)
      cases hk : ([46, 101, 69] : List UInt8).contains c
      · rfl
      · simp at hk
        rcases hk with rfl | rfl | rfl <;> simp at this
  · rw [itoa_is] at e
    by_cases hn : n < 0
    · have hm : minus (decide (n < 0)) = [45] := by simp [minus, hn]
      rw [hm] at e
      have e2 : Lib.decDigits n.natAbs = [48] := by simpa using e
      exact hd.2 (by omega) (by rw [e2]; rfl)
    · have hm : minus (decide (n < 0)) = [] := by simp [minus, hn]
      rw [hm, List.nil_append] at e
      exact dec_not_minus _ _ e
theorem itoa_short (n : Int) (h0 : -9223372036854775808 ≤ n) (h1 : n ≤ 9223372036854775807) : (Lib.itoa n).length ≤ 21 ∧ (numD n).length ≤ 300 := by
  have h := Lib.itoa_length_le n h0 h1
  refine ⟨h, ?_⟩
  rw [itoa_is, List.length_append] at h
  show (Lib.decDigits n.natAbs).length ≤ 300
  omega
end Go.Proofs.YtnapebgkcjnnbaaGreatDoor
namespace Go.Proofs.YtnapebgkcjnnbaaGreatDoor
set_option linter.unusedVariables false
set_option linter.unusedSimpArgs false
theorem nil_tl : (⟨#[]⟩ : ByteArray).toList = [] := by rw [Lib.toList_data]
theorem goodN_not {c : UInt8} {l : List UInt8} (h1 : c ≠ 45) (h2 : isDig c = false) : goodN (c :: l) = false := by
  have e1 : Lib.trimPrefix (c :: l) [45] = c :: l := by
    refine no_trim ?_
    unfold Lib.hasPrefix
    simp [List.isPrefixOf]
    exact Ne.symm h1
  have e2 : digN (c :: l) = 0 := by rw [digN_cons]; simp [h2]
  unfold goodN parseN
  rw [e1, e2]
  split
  · rfl
  · simp
theorem flat_good (t : VT) (hl : t.ln = 0) (hm : t.mn = 0) : goodT t = ownV t := by
  unfold goodT
  rw [judgeT_eq, hl, hm]
  simp [runTo]
  cases ownV t <;> rfl
theorem quo_list (s : ByteArray) : (quo s).data.toList = 39 :: s.data.toList := by unfold quo; simp
theorem at_list (s : ByteArray) : (atS s).data.toList = 64 :: s.data.toList := by unfold atS; simp
theorem tail_is {q s : ByteArray} {c : UInt8} (h : q.data.toList = c :: s.data.toList) : q.extract 1 q.size = s := by
  have h1 : (q.extract 1 q.size).data.toList = s.data.toList := by
    rw [Lib.extract_data, h, Lib.size_eq, h]
    simp
    try (rw [List.take_of_length_le (by rw [Lib.size_eq]; exact Nat.le_refl _)])
  exact ba_ext h1
theorem cell_quo (s : ByteArray) : cellV (quo s) = strR s := by
  have h := quo_list s
  have hg : goodN (quo s).data.toList = false := by rw [h]; exact goodN_not (by decide) (by decide)
  have hu : unq (quo s) = s := by unfold unq; rw [h]; exact ba_ext (by simp [Lib.trimPrefix, Lib.hasPrefix])
  unfold cellV
  rw [hg, hu, h]
  simp
theorem cell_at (s : ByteArray) : cellV (atS s) = stampR s := by
  have h := at_list s
  have hg : goodN (atS s).data.toList = false := by rw [h]; exact goodN_not (by decide) (by decide)
  have hu : (atS s).extract 1 (atS s).size = s := tail_is h
  unfold cellV
  rw [hg, hu, h]
  simp
theorem goodN_const : goodN [] = false ∧ goodN [110, 117, 108, 108] = false ∧ goodN [116, 114, 117, 101] = false ∧ goodN [102, 97, 108, 115, 101] = false ∧ goodN [91, 93] = false ∧ goodN [123, 125] = false :=
  ⟨by decide +kernel, goodN_not (by decide) (by decide), goodN_not (by decide) (by decide), goodN_not (by decide) (by decide), goodN_not (by decide) (by decide), goodN_not (by decide) (by decide)⟩
theorem cell_num {s : ByteArray} (hg : goodN s.data.toList = true) : cellV s = (numT s, 0) := by
  obtain ⟨g0, g1, g2, g3, g4, g5⟩ := goodN_const
  have ne : ∀ l, goodN l = false → s.data.toList ≠ l := fun l h e => by rw [e, h] at hg; cases hg
  unfold cellV
  rw [if_neg (ne _ g0), if_neg (ne _ g1), if_neg (ne _ g2), if_neg (ne _ g3), if_neg (ne _ g4), if_neg (ne _ g5), if_pos hg]
/-- Alike, of values without parts. -/
theorem same_flat (a b : VT) (al : a.ln = 0) (am : a.mn = 0) : sameV a b = (a.k == b.k && a.n == b.n && (0 == b.ln) && (0 == b.mn) && a.s.toList == b.s.toList) := by
  unfold sameV
  rw [sameB_eq, al, am]
  simp [allTo, nev]
theorem itoa_ba (n : Int) : (⟨(Lib.itoa n).toArray⟩ : ByteArray).data.toList = Lib.itoa n := by simp
theorem num_itoa {n : Int} (h0 : -9223372036854775808 ≤ n) (h1 : n ≤ 9223372036854775807) : goodN (Lib.itoa n) = true ∧ intN (Lib.itoa n) = some n := by
  have hs := (itoa_short n h0 h1).2
  exact ⟨by unfold goodN; rw [parse_itoa hs]; rfl, int_itoa h0 h1 hs⟩
/-- A string that needs no quote is read as itself. -/
theorem cell_plain {s : ByteArray} (hq : quotB s = false) : cellV s = (VT.leaf 4 0 s, 0) := by
  unfold quotB at hq
  simp at hq
  have h2 := hq.1.1.2
  have h4 := hq.1.2
  have hs := hq.2
  revert h2 h4 hs
  unfold cellV
  repeat' split
  all_goals (intro h2 h4 hs; first | exact absurd h4 (by decide) | exact absurd h2 (by decide) | skip)
  · exfalso
    unfold numT at h4
    split at h4
    · exact absurd (show (2 : Int) = 4 from h4) (by decide)
    · exact absurd (show (3 : Int) = 4 from h4) (by decide)
  · exfalso
    unfold stampR at h4
    split at h4
    · exact absurd (show (7 : Int) = 4 from h4) (by decide)
    · exact absurd (show (0 : Int) = 4 from h4) (by decide)
  · unfold strR at h2 h4 hs ⊢
    split at h2
    · rename_i hx
      rw [if_pos hx] at hs ⊢
      have e : (unq s) = s := ba_ext (by rw [← Lib.toList_data, ← Lib.toList_data]; exact hs)
      rw [e]
    · rename_i hx
      rw [if_neg hx] at h4
      exact absurd (show (0 : Int) = 4 from h4) (by decide)
/-- A string that may be, as a cell. -/
theorem str_cell (S : ByteArray) (h : (letC S == 0) = true) : textV (VT.leaf 4 0 S) = (textS S, true) ∧ cellV (textS S) = (VT.leaf 4 0 S, 0) ∧ (textS S).toList.isEmpty = false ∧
    ((textS S).toList == S.toList) = !quotB S ∧ (quotB S = true → textS S = quo S) := by
  have hg : goodT (VT.leaf 4 0 S) = true := by rw [flat_good _ rfl rfl]; exact h
  have e1 : textV (VT.leaf 4 0 S) = (textS S, true) := by unfold textV; rw [hg]; rfl
  refine ⟨e1, ?_⟩
  unfold textS
  cases hq : quotB S
  · rw [if_neg (by simp)]
    refine ⟨cell_plain hq, ?_, by simp, fun h => by cases h⟩
    unfold quotB at hq
    simp at hq
    simp [hq.1.1.1]
  · rw [if_pos rfl]
    refine ⟨by rw [cell_quo]; unfold strR; rw [if_pos h], ?_, ?_, fun _ => rfl⟩
    · rw [Lib.toList_data, quo_list]; rfl
    · rw [Lib.toList_data, Lib.toList_data, quo_list]
      simp
/-- What was written is read back. -/
theorem cell_back (t : VT) (h0 : -9223372036854775808 ≤ t.n) (h1 : t.n ≤ 9223372036854775807) (h : (textV t).2 = true) : (cellV (textV t).1).2 = 0 ∧ sameV (cellV (textV t).1).1 t = true := by
  unfold textV at h ⊢
  by_cases hc : (decide (t.ln + t.mn > 0) || !goodT t) = true
  · rw [if_pos hc] at h; cases h
  rw [if_neg hc] at h ⊢
  simp only [Bool.or_eq_true, decide_eq_true_eq, Bool.not_eq_true', not_or] at hc
  have hl : t.ln = 0 := by omega
  have hm : t.mn = 0 := by omega
  have hg : goodT t = true := by simpa using hc.2
  rw [flat_good t hl hm] at hg
  have em : ∀ {b : Bool}, (t.s.toList.isEmpty && b) = true → t.s.toList = [] := fun h => by simp at h; exact h.1
  have fi : ∀ (x : VT), x.ln = 0 → x.mn = 0 → t.k = x.k → t.n = x.n → x.s.toList = t.s.toList → sameV x t = true := fun x xl xm a b c => by
    rw [same_flat _ _ xl xm, hl, hm, a, b, c]; simp
  have fin : ∀ (k n : Int) (s : ByteArray), t.k = k → t.n = n → s.toList = t.s.toList → sameV (VT.leaf k n s) t = true := fun k n s a b c => fi _ rfl rfl a b c
  unfold ownV ownB at hg
  by_cases k0 : t.k = 0
  · simp [k0, hl, hm] at hg
    rw [if_pos k0]
    refine ⟨by rfl, ?_⟩
    show sameV VT.no t = true
    exact fi .no rfl rfl k0 hg.1 (by rw [hg.2]; exact nil_tl)
  by_cases k1 : t.k = 1
  · simp [k1, hl, hm] at hg
    rw [if_neg k0, if_pos k1]
    by_cases n1 : t.n = 1
    · rw [if_pos n1]
      exact ⟨by rfl, fin 1 1 ⟨#[]⟩ k1 n1 (by rw [hg.2]; exact nil_tl)⟩
    · rw [if_neg n1]
      exact ⟨by rfl, fin 1 0 ⟨#[]⟩ k1 (by omega) (by rw [hg.2]; exact nil_tl)⟩
  by_cases k2 : t.k = 2
  · simp [k2, hl, hm] at hg
    rw [if_neg k0, if_neg k1, if_pos k2]
    obtain ⟨g1, g2⟩ := num_itoa h0 h1
    rw [cell_num (by rw [itoa_ba]; exact g1)]
    refine ⟨rfl, ?_⟩
    show sameV (numT _) t = true
    unfold numT
    rw [itoa_ba, g2]
    exact fin 2 t.n ⟨#[]⟩ k2 rfl (by rw [hg]; exact nil_tl)
  by_cases k3 : t.k = 3
  · simp [k3, hl, hm] at hg
    rw [if_neg k0, if_neg k1, if_neg k2, if_pos k3]
    rw [cell_num hg.2.1]
    refine ⟨rfl, ?_⟩
    show sameV (numT _) t = true
    unfold numT
    rw [if_neg (by rw [hg.2.2]; simp)]
    exact fin 3 0 t.s k3 hg.1 rfl
  by_cases k7 : t.k = 7
  · simp [k7, hl, hm] at hg
    rw [if_neg k0, if_neg k1, if_neg k2, if_neg k3, if_pos k7]
    rw [cell_at]
    unfold stampR
    rw [if_pos hg.2]
    exact ⟨rfl, fin 7 0 t.s k7 hg.1 rfl⟩
  by_cases k5 : t.k = 5
  · simp [k5, hl, hm] at hg
    rw [if_neg k0, if_neg k1, if_neg k2, if_neg k3, if_neg k7, if_pos k5]
    exact ⟨by rfl, fin 5 0 ⟨#[]⟩ k5 hg.1 (by rw [hg.2]; exact nil_tl)⟩
  by_cases k6 : t.k = 6
  · simp [k6, hl, hm] at hg
    rw [if_neg k0, if_neg k1, if_neg k2, if_neg k3, if_neg k7, if_neg k5, if_pos k6]
    exact ⟨by rfl, fin 6 0 ⟨#[]⟩ k6 hg.1 (by rw [hg.2]; exact nil_tl)⟩
  by_cases k4 : t.k = 4
  · simp [k4, hl, hm] at hg
    rw [if_neg k0, if_neg k1, if_neg k2, if_neg k3, if_neg k7, if_neg k5, if_neg k6]
    show (cellV (textS t.s)).2 = 0 ∧ sameV (cellV (textS t.s)).1 t = true
    unfold textS
    cases hq : quotB t.s
    · rw [if_neg (by simp)]
      have hr := cell_plain hq
      rw [hr]
      exact ⟨rfl, fin 4 0 t.s k4 hg.1 rfl⟩
    · rw [if_pos rfl, cell_quo]
      unfold strR
      rw [if_pos (by simpa using hg.2)]
      exact ⟨rfl, fin 4 0 t.s k4 hg.1 rfl⟩
  · simp [k0, k1, k2, k3, k4, k5, k6, k7] at hg
end Go.Proofs.YtnapebgkcjnnbaaGreatDoor
