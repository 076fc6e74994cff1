/-
  The reference's Int, walked. Condition: a text of at most 1000 bytes.
-/
import Derived.Test.YtkdejdmmgjibmaaDoorRefCanon
import Derived.Test.YtkdejdmmgjibmaaDoorDecNum2
namespace Go.Proofs.YtkdejdmmgjibmaaDoor
open Go.RowKit
set_option linter.unusedVariables false
set_option linter.unusedSimpArgs false
set_option maxHeartbeats 1000000 in
theorem rint_bad (s : ByteArray) (w : World) (hs : s.size ≤ 1000) (hg : goodN s.data.toList = false) : Calls Tryd.prog 15 #[.string s] w fun e w' => e = .returned (.tuple #[.int .i64 0, .bool false]) ∧ w' = w := by
  have HG := Lib.hid hg
  clear hg
  go_enter Tryd.func15, Tryd.ntmps15
  go_wp2_with (go_at_call 16; refine (number_any _ _ hs).mono ?_; rintro e w1 ⟨rfl, hw⟩; rw [hw, HG.out]; clear hw)
  go_ret2
  exact ⟨rfl, rfl⟩
set_option maxHeartbeats 1000000 in
theorem rint_minus (s : ByteArray) (w : World) (hs : s.size ≤ 1000) (hg : goodN s.data.toList = true) (hm : s.toList = [45, 48]) : Calls Tryd.prog 15 #[.string s] w fun e w' => e = .returned (.tuple #[.int .i64 0, .bool false]) ∧ w' = w := by
  have HG := Lib.hid hg
  clear hg
  go_enter Tryd.func15, Tryd.ntmps15
  go_wp2_with (go_at_call 16; refine (number_any _ _ hs).mono ?_; rintro e w1 ⟨rfl, hw⟩; rw [hw, HG.out]; clear hw)
  go_ret2
  exact ⟨rfl, rfl⟩
set_option maxHeartbeats 1000000 in
theorem rint_frac (s : ByteArray) (w : World) (hs : s.size ≤ 1000) (hg : goodN s.data.toList = true) (hm : ¬ s.toList = [45, 48]) (b : Bool) (W P p : ByteArray) (hp : partsV ((partsN s.data.toList).map toBA) = .tuple #[.bool b, .string W, .string P, .string p, .bool true]) (h : ¬ P.toList = [] ∨ ¬ p.toList = []) : Calls Tryd.prog 15 #[.string s] w fun e w' => e = .returned (.tuple #[.int .i64 0, .bool false]) ∧ w' = w := by
  have HG := Lib.hid hg
  have HP := Lib.hid hp
  have hse : (s.toList == [45, 48]) = false := by simp [hm]
  clear hg hp
  by_cases hP : P.toList = []
  · have hpp : ¬ p.toList = [] := by rcases h with h | h; exact absurd hP h; exact h
    have hi1 : P.toList.isEmpty = true := by simp [hP]
    have hi2 : p.toList.isEmpty = false := by simp [hpp]
    clear h
    go_enter Tryd.func15, Tryd.ntmps15
    go_wp2_with (first | (go_at_call 16; refine (number_any _ _ hs).mono ?_; rintro e w1 ⟨rfl, hw⟩; rw [hw, HG.out]; clear hw) | (go_at_call 30; refine (rparts_any _ _ hs).mono ?_; rintro e w1 ⟨rfl, hw⟩; rw [hw, HP.out]; clear hw))
    go_ret2
    exact ⟨rfl, rfl⟩
  · have hi1 : P.toList.isEmpty = false := by simp [hP]
    clear h
    go_enter Tryd.func15, Tryd.ntmps15
    go_wp2_with (first | (go_at_call 16; refine (number_any _ _ hs).mono ?_; rintro e w1 ⟨rfl, hw⟩; rw [hw, HG.out]; clear hw) | (go_at_call 30; refine (rparts_any _ _ hs).mono ?_; rintro e w1 ⟨rfl, hw⟩; rw [hw, HP.out]; clear hw))
    go_ret2
    exact ⟨rfl, rfl⟩
abbrev decF : Nat → UInt8 → Nat := fun a c => a * 10 + (c.toNat - 48)
theorem down_test {a x : Int} (hx : 0 ≤ x) (hx9 : x ≤ 9) : Int.tdiv (-9223372036854775808 + x) 10 = -((9223372036854775808 - x) / 10) := by
  rw [show (-9223372036854775808 + x : Int) = -(9223372036854775808 - x) by omega, Int.neg_tdiv, Int.tdiv_eq_ediv_of_nonneg (by omega)]
set_option maxRecDepth 100000 in
set_option maxHeartbeats 2000000 in
theorem rint_ok (s : ByteArray) (w : World) (hs : s.size ≤ 1000) (hg : goodN s.data.toList = true) (hm : ¬ s.toList = [45, 48]) (b : Bool) (W : ByteArray) (hp : partsV ((partsN s.data.toList).map toBA) = .tuple #[.bool b, .string W, .string ⟨#[]⟩, .string ⟨#[]⟩, .bool true]) (hWs : W.size ≤ 1000) (hd : ∀ c ∈ W.data.toList, isDig c = true)
    (X : Option Int) (hX : X = if b = true then (if W.data.toList.foldl decF 0 ≤ 9223372036854775808 then some (-(W.data.toList.foldl decF 0 : Nat) : Int) else none) else (if W.data.toList.foldl decF 0 < 9223372036854775808 then some ((W.data.toList.foldl decF 0 : Nat) : Int) else none)) :
    Calls Tryd.prog 15 #[.string s] w fun e w' => e = .returned (.tuple #[.int .i64 (X.getD 0), .bool X.isSome]) ∧ w' = w := by
  have HG := Lib.hid hg
  have HP := Lib.hid hp
  have HX := Lib.hid hX
  have Hd := Lib.hid hd
  have hse : (s.toList == [45, 48]) = false := by simp [hm]
  clear hg hp hX hd
  go_enter Tryd.func15, Tryd.ntmps15
  go_wp2_with (first | (go_at_call 16; refine (number_any _ _ hs).mono ?_; rintro e w1 ⟨rfl, hw⟩; rw [hw, HG.out]; clear hw) | (go_at_call 30; refine (rparts_any _ _ hs).mono ?_; rintro e w1 ⟨rfl, hw⟩; rw [hw, HP.out]; clear hw))
  go_loop [9, 10] (fun v i => ∃ (k a : Nat), k ≤ W.size ∧ v = .int .i64 (-(a : Int)) ∧ i = .int .i64 (k : Int) ∧ a ≤ 9223372036854775808 ∧ W.data.toList.foldl decF 0 = (W.data.toList.drop k).foldl decF a) (fun _ i => W.size - (intOf i).toNat)
  case atStart => exact ⟨0, 0, Nat.zero_le _, rfl, rfl, by omega, by simp⟩
  case round =>
    obtain ⟨k, a, hk, rfl, rfl, ha, hacc⟩ := hrel
    by_cases h0 : k < W.size
    · have hkl : k < W.data.toList.length := by rw [← Lib.size_eq]; exact h0
      have hb : W.data.toList[k]? = some (W[k]'h0) := by
        rw [List.getElem?_eq_getElem hkl]; rfl
      have hr := dig_range (Hd.out _ (List.mem_of_getElem? hb))
      have hst : (W.data.toList.drop k).foldl decF a = (W.data.toList.drop (k + 1)).foldl decF (a * 10 + ((W[k]'h0).toNat - 48)) := by
        obtain ⟨hk2, he⟩ := List.getElem?_eq_some_iff.1 hb
        rw [List.drop_eq_getElem_cons hk2, List.foldl_cons, he]
      rw [hst] at hacc
      have k1 : (48 : Int) ≤ ((W[k]'h0).toNat : Int) := by omega
      have k2 : ((W[k]'h0).toNat : Int) ≤ 57 := by omega
      have hT := down_test (a := 0) (x := ((W[k]'h0).toNat : Int) - 48) (by omega) (by omega)
      obtain ⟨Q, hQ⟩ : ∃ Q, Q = -((9223372036854775808 - (((W[k]'h0).toNat : Int) - 48)) / 10) := ⟨_, rfl⟩
      rw [← hQ] at hT
      have hQ1 : -1000000000000000000 ≤ Q := by omega
      have hQ2 : Q ≤ 0 := by omega
      by_cases hbig : 9223372036854775808 < a * 10 + ((W[k]'h0).toNat - 48)
      · have hmono := val_mono (a * 10 + ((W[k]'h0).toNat - 48)) (W.data.toList.drop (k + 1))
        have hge : 9223372036854775808 < W.data.toList.foldl decF 0 := by rw [hacc]; exact Nat.lt_of_lt_of_le hbig hmono
        have hXn : X = none := by
          rw [HX.out]
          cases b
          · exact (if_neg (by simp)).trans (if_neg (Nat.not_lt.2 (Nat.le_of_lt hge)))
          · exact (if_pos rfl).trans (if_neg (Nat.not_le.2 hge))
        have HXn := Lib.hid hXn
        have hlt : -(a : Int) < Q := by omega
        clear hb hst hacc hbig hmono hXn hQ hge
        go_wp2
        go_ret2
        rw [HXn.out]
        exact ⟨rfl, rfl⟩
      · have HA := Lib.hid hacc
        have hlt : ¬ -(a : Int) < Q := by omega
        have hr2 : (a : Int) * 10 + (((W[k]'h0).toNat : Int) - 48) ≤ 9223372036854775808 := by omega
        clear hb hst hacc hQ
        go_wp2
        exact ⟨⟨k + 1, a * 10 + ((W[k]'h0).toNat - 48), by omega, by rw [show (10 * -(a : Int) - (((W[k]'h0).toNat : Int) - 48)) = -((a * 10 + ((W[k]'h0).toNat - 48) : Nat) : Int) by omega], rfl, by omega, HA.out⟩, by simp only [intOf]; omega⟩
    · have hU : W.data.toList.foldl decF 0 = a := by rw [hacc, List.drop_of_length_le (by rw [← Lib.size_eq]; omega)]; rfl
      have hXa := HX.out
      rw [hU] at hXa
      have HXa := Lib.hid hXa
      clear hU hacc
      cases b
      · have hXb : X = if a < 9223372036854775808 then some (a : Int) else none := hXa
        by_cases hl : (a : Int) = 9223372036854775808
        · rw [if_neg (by omega)] at hXb
          have HXb := Lib.hid hXb
          clear hXa hXb
          go_wp2
          go_ret2
          rw [HXb.out]
          exact ⟨rfl, rfl⟩
        · rw [if_pos (by omega)] at hXb
          have HXb := Lib.hid hXb
          have hl2 : ¬ -(a : Int) = -9223372036854775808 := by omega
          clear hXa hXb
          go_wp2
          go_ret2
          rw [HXb.out]
          exact ⟨rfl, rfl⟩
      · have hXb : X = if a ≤ 9223372036854775808 then some (-(a : Int)) else none := hXa
        rw [if_pos ha] at hXb
        have HXb := Lib.hid hXb
        clear hXa hXb
        go_wp2
        go_ret2
        rw [HXb.out]
        exact ⟨rfl, rfl⟩
theorem uint_over {l : List UInt8} (hd : ∀ c ∈ l, isDig c = true) (acc : Nat) (ha : acc ≤ 18446744073709551615) (h : 18446744073709551615 < l.foldl decF acc) : Lib.parseUintM 18446744073709551615 acc l = .range := by
  induction l generalizing acc with
  | nil => simp at h; omega
  | cons c l ih =>
    have hc := dig_range (hd c (by simp))
    rw [List.foldl_cons] at h
    unfold Lib.parseUintM
    rw [if_pos hc]
    by_cases h1 : 1844674407370955162 ≤ acc
    · rw [if_pos h1]
    · rw [if_neg h1]
      by_cases h2 : 18446744073709551615 < acc * 10 + (c.toNat - 48)
      · rw [if_pos h2]
      · rw [if_neg h2]
        exact ih (fun c hc => hd c (List.mem_cons_of_mem _ hc)) _ (by omega) h
theorem uintB_is {l : List UInt8} (hd : ∀ c ∈ l, isDig c = true) (hne : l ≠ []) : Lib.parseUintB 64 l = if l.foldl decF 0 ≤ 18446744073709551615 then .ok (l.foldl decF 0) else .range := by
  unfold Lib.parseUintB
  rw [if_neg hne]
  by_cases h : l.foldl decF 0 ≤ 18446744073709551615
  · rw [if_pos h]; exact uint_is hd 0 h
  · rw [if_neg h]; exact uint_over hd 0 (by omega) (by omega)
theorem parseInt_lit (b : Bool) {D : List UInt8} (hd : ∀ c ∈ D, isDig c = true) (hne : D ≠ []) :
    (match Lib.parseIntB 64 (minus b ++ D) with | .ok v => some v | _ => none) = if b = true then (if D.foldl decF 0 ≤ 9223372036854775808 then some (-(D.foldl decF 0 : Nat) : Int) else none) else (if D.foldl decF 0 < 9223372036854775808 then some ((D.foldl decF 0 : Nat) : Int) else none) := by
  have hu := uintB_is hd hne
  cases b
  · have hm : minus false = [] := rfl
    rw [hm, List.nil_append]
    cases hq : D with
    | nil => exact absurd hq hne
    | cons c r =>
      have hc := dig_range (hd c (by rw [hq]; simp))
      rw [hq] at hu
      have e45 : ¬ c.toNat = 45 := by omega
      unfold Lib.parseIntB
      simp only
      rw [if_neg (show ¬ (c.toNat = 43 ∨ c.toNat = 45) by omega), hu]
      by_cases h : (c :: r).foldl decF 0 ≤ 18446744073709551615
      · rw [if_pos h]
        simp only [e45, not_false_eq_true, true_and, false_and, if_false]
        by_cases h2 : (c :: r).foldl decF 0 < 9223372036854775808
        · rw [if_neg (by omega), if_pos h2]; rfl
        · rw [if_pos (by omega), if_neg h2]; rfl
      · rw [if_neg h, if_neg (show ¬ (c :: r).foldl decF 0 < 9223372036854775808 by omega)]; rfl
  · have hm : minus true = [45] := rfl
    rw [hm]
    show (match Lib.parseIntB 64 (45 :: D) with | .ok v => some v | _ => none) = _
    unfold Lib.parseIntB
    simp only [show (45 : UInt8).toNat = 45 from rfl]
    rw [if_pos (.inr trivial), hu]
    by_cases h : D.foldl decF 0 ≤ 18446744073709551615
    · rw [if_pos h]
      simp only [not_true_eq_false, false_and, if_false, true_and, if_true]
      by_cases h2 : D.foldl decF 0 ≤ 9223372036854775808
      · rw [if_neg (by omega), if_pos h2]
      · rw [if_pos (by omega), if_neg h2]
    · rw [if_neg h]
      simp only [if_true]
      rw [if_neg (show ¬ D.foldl decF 0 ≤ 9223372036854775808 by omega)]
end Go.Proofs.YtkdejdmmgjibmaaDoor
