/-
  A whole number's text is read back as that number, in plain Lean. No condition.
  The reference's Text, walked: a number's digits. Condition: a number that an int64 holds.
-/
import Derived.Test.YtffcpmohanhihaaGreatDoorRNumJ
import Derived.Lib.ItoaLen
import Derived.Laws.IdiomStrings
import Derived.Deep.RegionWith
import Derived.Test.YtffcpmohanhihaaGreatDoorJ2
namespace Go.Proofs.YtffcpmohanhihaaGreatDoor
set_option linter.unusedVariables false
set_option linter.unusedSimpArgs false
/-- The number that digits say. -/
def digVal (l : List UInt8) : Nat := l.foldl (fun a c => a * 10 + (c.toNat - 48)) 0
theorem digVal_snoc (l : List UInt8) (c : UInt8) : digVal (l ++ [c]) = digVal l * 10 + (c.toNat - 48) := by simp [digVal]
theorem dig_nat {k : Nat} (h : k < 10) : (UInt8.ofNat (48 + k)).toNat = 48 + k := by simp; omega
theorem dec_facts (u : Nat) : digVal (Lib.decDigits u) = u ∧ (∀ c ∈ Lib.decDigits u, isDig c = true) ∧ Lib.decDigits u ≠ [] := by
  induction u using Nat.strongRecOn with
  | ind u ih =>
    rw [Lib.decDigits]
    split
    · rename_i h
      refine ⟨by simp [digVal]; omega, fun c hc => ?_, by simp⟩
      obtain rfl := List.mem_singleton.1 hc
      simp only [isDig, dig_nat h]; simp; omega
    · rename_i h
      obtain ⟨i1, i2, i3⟩ := ih (u / 10) (by omega)
      refine ⟨by rw [digVal_snoc, i1, dig_nat (by omega)]; omega, fun c hc => ?_, by simp⟩
      rcases List.mem_append.1 hc with hc | hc
      · exact i2 c hc
      · obtain rfl := List.mem_singleton.1 hc
        have hm : u % 10 < 10 := by omega
        simp only [isDig, dig_nat hm]; simp; omega
theorem dec_not_minus (u : Nat) (l : List UInt8) : Lib.decDigits u ≠ 45 :: l := fun h => by
  have := (dec_facts u).2.1 45 (by rw [h]; simp)
  simp [isDig] at this
theorem digN_app {D T : List UInt8} (hd : ∀ c ∈ D, isDig c = true) (hT : ∀ c, T.head? = some c → isDig c = false) : digN (D ++ T) = D.length := by
  induction D with
  | nil =>
    cases T with
    | nil => rfl
    | cons c T => rw [List.nil_append, digN_cons, if_neg (by rw [hT c rfl]; simp)]; rfl
  | cons d D ih =>
    rw [List.cons_append, digN_cons, if_pos (hd d (by simp)), ih (fun c hc => hd c (List.mem_cons_of_mem _ hc))]
    rfl
theorem dig_not_minus {c : UInt8} (h : isDig c = true) : c ≠ 45 := fun e => by subst e; simp [isDig] at h
theorem parse_lit (b : Bool) {D T : List UInt8} (hd : ∀ c ∈ D, isDig c = true) (hne : D ≠ []) (hlead : 1 < D.length → D.head? ≠ some 48) (hT : ∀ c, T.head? = some c → isDig c = false) (hlen : 1 + D.length + T.length ≤ 400) :
    parseN (minus b ++ (D ++ T)) = (partN T).bind fun pr => (expN pr.2).map fun e => normN b D pr.1 e := by
  have hdn := digN_app hd hT
  have hpos : 0 < D.length := List.length_pos_iff.2 hne
  obtain ⟨d, ds, hD⟩ : ∃ d ds, D = d :: ds := by
    cases D with
    | nil => exact absurd rfl hne
    | cons d ds => exact ⟨d, ds, rfl⟩
  have hd45 := dig_not_minus (hd d (by rw [hD]; simp))
  have h1 : Lib.hasPrefix (minus b ++ (D ++ T)) [45] = b := by
    cases b
    · have h45 := Ne.symm hd45
      have hb : ((45 : UInt8) == d) = false := by simpa using h45
      simp [minus, hD, Lib.hasPrefix, List.isPrefixOf, hb]
    · simp [minus, Lib.hasPrefix]
  have h2 : Lib.trimPrefix (minus b ++ (D ++ T)) [45] = D ++ T := by
    unfold Lib.trimPrefix
    rw [h1]
    cases b <;> simp [minus]
  have h3 : ¬ 400 < (minus b ++ (D ++ T)).length := by
    simp only [List.length_append]
    have : (minus b).length ≤ 1 := by unfold minus; split <;> simp
    omega
  unfold parseN
  rw [if_neg h3, h2, h1, hdn, List.take_left, List.drop_left]
  rw [if_neg ?_]
  rintro (h | ⟨h, h'⟩)
  · omega
  · refine hlead h ?_
    rw [hD] at h' ⊢
    simpa using h'
structure Lit (D : List UInt8) : Prop where
  dig : ∀ c ∈ D, isDig c = true
  ne : D ≠ []
  lead : 1 < D.length → D.head? ≠ some 48
theorem head_app {D l : List UInt8} (hne : D ≠ []) (h : D.head? ≠ some 48) : (D ++ l).head? ≠ some 48 := by
  cases D with
  | nil => exact absurd rfl hne
  | cons d ds => simpa using h
theorem dec_lit (u : Nat) : Lit (Lib.decDigits u) ∧ (u ≠ 0 → (Lib.decDigits u).head? ≠ some 48) := by
  have key : ∀ u, u ≠ 0 → (Lib.decDigits u).head? ≠ some 48 := fun u => by
    induction u using Nat.strongRecOn with
    | ind u ih =>
      intro h0
      rw [Lib.decDigits]
      split
      · rename_i h
        simp only [List.head?_cons, ne_eq, Option.some.injEq]
        intro e
        have := congrArg UInt8.toNat e
        rw [dig_nat h] at this
        have : 48 + u = 48 := this
        omega
      · rename_i h
        exact head_app (dec_facts (u / 10)).2.2 (ih (u / 10) (by omega) (by omega))
  refine ⟨⟨(dec_facts u).2.1, (dec_facts u).2.2, fun hl => ?_⟩, key u⟩
  by_cases h : u = 0
  · subst h; rw [Lib.decDigits_one (by omega)] at hl; simp at hl
  · exact key u h
theorem itoa_is (n : Int) : Lib.itoa n = minus (decide (n < 0)) ++ Lib.decDigits n.natAbs := by
  unfold Lib.itoa minus
  by_cases h : n < 0
  · rw [if_pos h, if_pos (by simp [h])]; rfl
  · rw [if_neg h, if_neg (by simp [h]), List.nil_append]
    congr 1; omega
abbrev numD (n : Int) : List UInt8 := Lib.decDigits n.natAbs
/-- What an int's text says, with a tail. -/
theorem itoa_tail (n : Int) {T : List UInt8} (hT : ∀ c, T.head? = some c → isDig c = false) (hlen : 1 + (numD n).length + T.length ≤ 400) :
    parseN (Lib.itoa n ++ T) = (partN T).bind fun pr => (expN pr.2).map fun e => normN (decide (n < 0)) (numD n) pr.1 e := by
  rw [itoa_is, List.append_assoc]
  obtain ⟨h, _⟩ := dec_lit n.natAbs
  exact parse_lit _ h.dig h.ne h.lead hT hlen
def numOf (n : Int) (e : Int) : Num := normN (decide (n < 0)) (numD n) [] e
theorem parse_itoa {n : Int} (hl : (numD n).length ≤ 300) : parseN (Lib.itoa n) = some (numOf n 0) := by
  have h := itoa_tail n (T := []) (fun c hc => by cases hc) (by simp; omega)
  rw [List.append_nil] at h
  rw [h]; rfl
theorem parseInt_itoa {n : Int} (h0 : -9223372036854775808 ≤ n) (h1 : n ≤ 9223372036854775807) : Lib.parseIntB 64 (Lib.itoa n) = .ok n := by
  have hd := dec_lit n.natAbs
  have hv : digVal (numD n) = n.natAbs := (dec_facts _).1
  have hu : Lib.parseUintB 64 (numD n) = .ok n.natAbs := by
    unfold Lib.parseUintB
    rw [if_neg hd.1.ne]
    have := uint_is hd.1.dig 0 (show digVal (numD n) ≤ _ by omega)
    rw [← hv]
    exact this
  rw [itoa_is]
  by_cases hn : n < 0
  · have hm : minus (decide (n < 0)) = [45] := by simp [minus, hn]
    rw [hm]
    show Lib.parseIntB 64 (45 :: numD n) = _
    unfold Lib.parseIntB
    simp only [show (45 : UInt8).toNat = 45 from rfl]
    rw [if_pos (.inr trivial), hu]
    simp only [not_true_eq_false, false_and, if_false, true_and, if_true]
    rw [if_neg (by omega)]
    congr 1; omega
  · have hm : minus (decide (n < 0)) = [] := by simp [minus, hn]
    rw [hm, List.nil_append]
    cases hq : Lib.decDigits n.natAbs with
    | nil => exact absurd hq hd.1.ne
    | cons c r =>
      have hc := dig_range (hd.1.dig c (by rw [hq]; simp))
      unfold Lib.parseIntB
      simp only
      have e45 : ¬ c.toNat = 45 := by omega
      rw [if_neg (by omega), ← hq, show Lib.decDigits n.natAbs = numD n from rfl, hu]
      simp only [e45, not_false_eq_true, true_and, false_and, if_false]
      rw [if_neg (by omega)]
      congr 1; omega
theorem int_itoa {n : Int} (h0 : -9223372036854775808 ≤ n) (h1 : n ≤ 9223372036854775807) (hl : (numD n).length ≤ 300) : intN (Lib.itoa n) = some n := by
  have hd := dec_lit n.natAbs
  unfold intN
  rw [if_pos ?_, parseInt_itoa h0 h1]
  refine ⟨by unfold goodN; rw [parse_itoa hl]; rfl, noAny fun c hc => ?_, fun e => ?_⟩
  · rw [itoa_is] at hc
    rcases List.mem_append.1 hc with hc | hc
    · unfold minus at hc
      split at hc
      · obtain rfl := List.mem_singleton.1 hc; decide
      · cases hc
    · have := dig_range (hd.1.dig c hc)
      cases hk : ([46, 101, 69] : List UInt8).contains c
      · rfl
      · simp at hk
        rcases hk with rfl | rfl | rfl <;> simp at this
  · rw [itoa_is] at e
    by_cases hn : n < 0
    · have hm : minus (decide (n < 0)) = [45] := by simp [minus, hn]
      rw [hm] at e
      have e2 : Lib.decDigits n.natAbs = [48] := by simpa using e
      exact hd.2 (by omega) (by rw [e2]; rfl)
    · have hm : minus (decide (n < 0)) = [] := by simp [minus, hn]
      rw [hm, List.nil_append] at e
      exact dec_not_minus _ _ e
theorem itoa_short (n : Int) (h0 : -9223372036854775808 ≤ n) (h1 : n ≤ 9223372036854775807) : (Lib.itoa n).length ≤ 21 ∧ (numD n).length ≤ 300 := by
  have h := Lib.itoa_length_le n h0 h1
  refine ⟨h, ?_⟩
  rw [itoa_is, List.length_append] at h
  show (Lib.decDigits n.natAbs).length ≤ 300
  omega
end Go.Proofs.YtffcpmohanhihaaGreatDoor
namespace Go.Proofs.YtffcpmohanhihaaGreatDoor
open Go.RowKit
set_option linter.unusedVariables false
set_option linter.unusedSimpArgs false
theorem conv_one (w : World) (v : Int) (c : UInt8) (hv : (c.toNat : Int) = v) : (convert 105 9 (.slice (some ⟨w.heap.size, 0, none⟩) 1 1)).run Tryz.prog (w.alloc (.cells #[.int .u8 v] 5)) = .ok (.string ⟨#[c]⟩) (w.alloc (.cells #[.int .u8 v] 5)) := by
  have h := run_convert_bytes_back (P := Tryz.prog) (w.alloc (.cells #[.int .u8 v] 5)) 105 9 5 ⟨w.heap.size, 0, none⟩ 1 [c] Tryz.underlying105 Tryz.underlying5 Tryz.underlying9 (fun j hj => by
    have : j = 0 := by simpa using hj
    subst this
    have ha : (⟨w.heap.size, 0, none⟩ : Addr).add 0 = ⟨w.heap.size, 0, none⟩ := rfl
    rw [ha, cell_of_row _ w.heap.size 0 _ 5 (0, 0) (heap_alloc_new _ _), ← hv]
    rfl)
  exact h
theorem conv_row {w : World} {g : Nat} {v : Int} {c : UInt8} (hg : w.heap[g]? = some (.cells #[.int .u8 v] 5 (0, 0))) (hv : (c.toNat : Int) = v) : (convert 105 9 (.slice (some ⟨g, 0, none⟩) 1 1)).run Tryz.prog w = .ok (.string ⟨#[c]⟩) w := by
  have h := run_convert_bytes_back (P := Tryz.prog) w 105 9 5 ⟨g, 0, none⟩ 1 [c] Tryz.underlying105 Tryz.underlying5 Tryz.underlying9 (fun j hj => by
    have : j = 0 := by simpa using hj
    subst this
    have ha : (⟨g, 0, none⟩ : Addr).add 0 = ⟨g, 0, none⟩ := rfl
    rw [ha, cell_of_row _ g 0 _ 5 (0, 0) hg, ← hv]
    rfl)
  exact h
theorem conv_below {w w2 : World} {v : Int} {c : UInt8} (hb : Below (w.alloc (.cells #[.int .u8 v] 5)).heap.size (w.alloc (.cells #[.int .u8 v] 5)) w2) (hv : (c.toNat : Int) = v) : (convert 105 9 (.slice (some ⟨w.heap.size, 0, none⟩) 1 1)).run Tryz.prog w2 = .ok (.string ⟨#[c]⟩) w2 :=
  conv_row ((hb.block w.heap.size (by simp)).trans (heap_alloc_new _ _)) hv
theorem fin1 {w w1 : World} (h : Below w.drew.heap.size w.drew w1) (o : Obj) : Below w.heap.size w (w1.alloc o) :=
  (((Below.refl w.heap.size w).drew).trans h).alloc h.size o
theorem fin2 {w w1 : World} {o : Obj} (h : Below ((w.alloc o).drew).heap.size ((w.alloc o).drew) w1) : Below w.heap.size w w1 :=
  (((Below.refl w.heap.size w).alloc (Nat.le_refl _) o).drew).trans (h.mono (by simp))
theorem itoa_21' (u : Nat) (h : (u : Int) ≤ 9223372036854775807) : (Lib.decDigits u).length ≤ 21 := by
  have := Lib.itoa_length_le (u : Int) (by omega) h
  unfold Lib.itoa at this
  rw [if_neg (by omega)] at this
  exact this
theorem dec_step {u q r : Nat} (h : 10 ≤ u) (hq : u / 10 = q) (hr : u % 10 = r) : Lib.decDigits u = Lib.decDigits q ++ [UInt8.ofNat (48 + r)] := by
  rw [Lib.decDigits, dif_neg (by omega), hq, hr]
theorem least_digits : Lib.itoa (-9223372036854775808) = [45, 57, 50, 50, 51, 51, 55, 50, 48, 51, 54, 56, 53, 52, 55, 55, 53, 56, 48, 56] := by
  unfold Lib.itoa
  rw [if_pos (by decide)]
  congr 1
  show Lib.decDigits 9223372036854775808 = _
  rw [dec_step (q := 922337203685477580) (r := 8) (by decide) (by decide) (by decide), dec_step (q := 92233720368547758) (r := 0) (by decide) (by decide) (by decide), dec_step (q := 9223372036854775) (r := 8) (by decide) (by decide) (by decide), dec_step (q := 922337203685477) (r := 5) (by decide) (by decide) (by decide), dec_step (q := 92233720368547) (r := 7) (by decide) (by decide) (by decide), dec_step (q := 9223372036854) (r := 7) (by decide) (by decide) (by decide), dec_step (q := 922337203685) (r := 4) (by decide) (by decide) (by decide), dec_step (q := 92233720368) (r := 5) (by decide) (by decide) (by decide), dec_step (q := 9223372036) (r := 8) (by decide) (by decide) (by decide), dec_step (q := 922337203) (r := 6) (by decide) (by decide) (by decide), dec_step (q := 92233720) (r := 3) (by decide) (by decide) (by decide), dec_step (q := 9223372) (r := 0) (by decide) (by decide) (by decide), dec_step (q := 922337) (r := 2) (by decide) (by decide) (by decide), dec_step (q := 92233) (r := 7) (by decide) (by decide) (by decide), dec_step (q := 9223) (r := 3) (by decide) (by decide) (by decide), dec_step (q := 922) (r := 3) (by decide) (by decide) (by decide), dec_step (q := 92) (r := 2) (by decide) (by decide) (by decide), dec_step (q := 9) (r := 2) (by decide) (by decide) (by decide), Lib.decDigits_one (by decide)]
  rfl
set_option maxRecDepth 100000 in
set_option maxHeartbeats 1000000 in
theorem rtext_digit (u : Nat) (w : World) (hu : u < 10) : Calls Tryz.prog 26 #[.int .i64 (u : Int)] w fun e w' => e = .returned (.string ⟨(Lib.decDigits u).toArray⟩) ∧ Below w.heap.size w w' := by
  rw [Lib.decDigits_one hu]
  have hc : ((UInt8.ofNat (48 + u)).toNat : Int) = 48 + (u : Int) := by rw [dig_nat hu]; omega
  have HC := Lib.hid hc
  have h0 : ¬ (u : Int) < 0 := by omega
  have h1 : (u : Int) < 10 := by omega
  clear hc
  go_enter Tryz.func26, Tryz.ntmps26
  go_wp2_with (rw [conv_one _ _ _ HC.out])
  go_ret
  exact ⟨rfl, (Below.refl _ _).alloc (Nat.le_refl _) _⟩
set_option maxRecDepth 100000 in
set_option maxHeartbeats 1000000 in
theorem rtext_more (u q r : Nat) (w : World) (hu : 10 ≤ u) (hu2 : (u : Int) ≤ 9223372036854775807) (hq : u / 10 = q) (hr : u % 10 = r) (ih : ∀ W, Calls Tryz.prog 26 #[.int .i64 (q : Int)] W fun e w' => e = .returned (.string ⟨(Lib.decDigits q).toArray⟩) ∧ Below W.heap.size W w') (T : ByteArray) (hT : (⟨(Lib.decDigits q).toArray⟩ : ByteArray) = T) (hTs : T.size ≤ 30) (c : UInt8) (hc : (c.toNat : Int) = 48 + (r : Int)) :
    Calls Tryz.prog 26 #[.int .i64 (u : Int)] w fun e w' => e = .returned (.string (T ++ ⟨#[c]⟩)) ∧ Below w.heap.size w w' := by
  have hr9 : r < 10 := by omega
  have hq1 : IntKind.i64.wrap ((u : Int) / 10) = (q : Int) := by rw [IntWalk.i64_left, IntWalk.wrap64_in _ (by omega)]; omega
  have hq2 : (u : Int).tmod 10 = (r : Int) := by rw [Int.tmod_eq_emod_of_nonneg (by omega)]; omega
  have hq3 : IntKind.i64.wrap (48 + (r : Int)) = 48 + (r : Int) := by rw [IntWalk.i64_left, IntWalk.wrap64_in _ (by omega)]
  have hq4 : IntKind.u8.wrap (48 + (r : Int)) = 48 + (r : Int) := by
    rcases (show r = 0 ∨ r = 1 ∨ r = 2 ∨ r = 3 ∨ r = 4 ∨ r = 5 ∨ r = 6 ∨ r = 7 ∨ r = 8 ∨ r = 9 by omega) with h | h | h | h | h | h | h | h | h | h <;> subst h <;> decide
  have HC := Lib.hid hc
  have HI := Lib.hid ih
  have HT := Lib.hid hT
  have h0 : ¬ (u : Int) < 0 := by omega
  have h1 : ¬ (u : Int) < 10 := by omega
  clear hc ih hT
  go_enter Tryz.func26, Tryz.ntmps26
  have hrA : ((w.alloc (.cells #[.int .u8 (48 + (r : Int))] 5)).drew).heap[w.heap.size]? = some (.cells #[.int .u8 (48 + (r : Int))] 5 (0, 0)) := heap_alloc_new w _
  have hcA := conv_row hrA HC.out
  have HrA := Lib.hid hrA
  clear hrA
  go_wp2
  go_region_with (go_at_call 26; refine (HI.out _).mono ?_; rintro e w1 ⟨rfl, hb1⟩; rw [HT.out]; have hcC := conv_one w1 _ _ HC.out; (try (have hcB := conv_row ((hb1.block w.heap.size (by simp)).trans HrA.out) HC.out)); have HB := Lib.hid hb1; clear hb1)
  all_goals go_wp2
  all_goals go_ret
  all_goals refine ⟨rfl, ?_⟩
  all_goals first | exact fin1 HB.out _ | exact fin2 HB.out
set_option maxRecDepth 100000 in
set_option maxHeartbeats 1000000 in
theorem rtext_neg (n : Int) (w : World) (h0 : n < 0) (h1 : ¬ n = -9223372036854775808) (h2 : -9223372036854775808 ≤ n) (m : Nat) (hm : -n = (m : Int)) (ih : ∀ W, Calls Tryz.prog 26 #[.int .i64 (m : Int)] W fun e w' => e = .returned (.string ⟨(Lib.decDigits m).toArray⟩) ∧ Below W.heap.size W w') (T : ByteArray) (hT : (⟨(Lib.decDigits m).toArray⟩ : ByteArray) = T) (hTs : T.size ≤ 30) :
    Calls Tryz.prog 26 #[.int .i64 n] w fun e w' => e = .returned (.string (⟨#[45]⟩ ++ T)) ∧ Below w.heap.size w w' := by
  have HI := Lib.hid ih
  have HT := Lib.hid hT
  have HM := Lib.hid hm
  clear ih hT hm
  go_enter Tryz.func26, Tryz.ntmps26
  go_wp2_with (go_at_call 26; rw [HM.out]; refine (HI.out _).mono ?_; rintro e w1 ⟨rfl, hb1⟩; rw [HT.out]; have HB := Lib.hid hb1; clear hb1)
  go_ret
  exact ⟨rfl, HB.out⟩
set_option maxRecDepth 100000 in
set_option maxHeartbeats 1000000 in
theorem rtext_least (w : World) : Calls Tryz.prog 26 #[.int .i64 (-9223372036854775808)] w fun e w' => e = .returned (.string ⟨#[45, 57, 50, 50, 51, 51, 55, 50, 48, 51, 54, 56, 53, 52, 55, 55, 53, 56, 48, 56]⟩) ∧ Below w.heap.size w w' := by
  go_enter Tryz.func26, Tryz.ntmps26
  go_wp2
  go_ret
  exact ⟨rfl, Below.refl _ _⟩
theorem rtext_pos (u : Nat) (w : World) (hu : (u : Int) ≤ 9223372036854775807) : Calls Tryz.prog 26 #[.int .i64 (u : Int)] w fun e w' => e = .returned (.string ⟨(Lib.decDigits u).toArray⟩) ∧ Below w.heap.size w w' := by
  induction u using Nat.strongRecOn generalizing w with
  | ind u ih =>
    by_cases h : u < 10
    · exact rtext_digit u w h
    · have hl := (itoa_21' (u / 10) (by omega))
      have e : (⟨(Lib.decDigits u).toArray⟩ : ByteArray) = (⟨(Lib.decDigits (u / 10)).toArray⟩ : ByteArray) ++ ⟨#[UInt8.ofNat (48 + u % 10)]⟩ := by
        refine ba_ext ?_
        rw [ba_append]
        show Lib.decDigits u = Lib.decDigits (u / 10) ++ [UInt8.ofNat (48 + u % 10)]
        rw [Lib.decDigits, dif_neg h]
      rw [e]
      exact rtext_more u (u / 10) (u % 10) w (by omega) hu rfl rfl (fun W => ih (u / 10) (by omega) W (by omega)) _ rfl (by rw [Lib.size_eq]; show (Lib.decDigits (u / 10)).length ≤ 30; omega) _ (by rw [dig_nat (by omega)]; omega)
theorem rtext_any (n : Int) (w : World) (h0 : -9223372036854775808 ≤ n) (h1 : n ≤ 9223372036854775807) : Calls Tryz.prog 26 #[.int .i64 n] w fun e w' => e = .returned (.string ⟨(Lib.itoa n).toArray⟩) ∧ Below w.heap.size w w' := by
  by_cases hn : n < 0
  · by_cases hl : n = -9223372036854775808
    · subst hl
      have e : Lib.itoa (-9223372036854775808) = [45, 57, 50, 50, 51, 51, 55, 50, 48, 51, 54, 56, 53, 52, 55, 55, 53, 56, 48, 56] := least_digits
      rw [e]; exact rtext_least w
    · have hl_ := hl
      obtain ⟨m, hm⟩ : ∃ m : Nat, -n = (m : Int) := ⟨n.natAbs, by omega⟩
      have e : (⟨(Lib.itoa n).toArray⟩ : ByteArray) = (⟨#[45]⟩ : ByteArray) ++ (⟨(Lib.decDigits m).toArray⟩ : ByteArray) := by
        refine ba_ext ?_
        rw [ba_append]
        show Lib.itoa n = 45 :: Lib.decDigits m
        unfold Lib.itoa
        rw [if_pos hn, show n.natAbs = m by omega]
      rw [e]
      have hl := itoa_21' m (by omega)
      exact rtext_neg n w hn hl_ h0 m hm (fun W => rtext_pos m W (by omega)) _ rfl (by rw [Lib.size_eq]; show (Lib.decDigits m).length ≤ 30; omega)
  · obtain ⟨u, rfl⟩ : ∃ u : Nat, n = (u : Int) := ⟨n.toNat, by omega⟩
    have e : Lib.itoa (u : Int) = Lib.decDigits u := by unfold Lib.itoa; rw [if_neg hn]; rfl
    rw [e]; exact rtext_pos u w h1
end Go.Proofs.YtffcpmohanhihaaGreatDoor
