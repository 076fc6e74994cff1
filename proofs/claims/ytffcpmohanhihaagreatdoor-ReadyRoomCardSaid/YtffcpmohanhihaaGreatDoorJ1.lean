/-
  Words for texts: a list of bytes as a text; digits at its head. No condition.
  What dec reads out of a text, in plain Lean. No condition.
  dec.digits, walked: how many digits stand at a text's head. No condition beside a length that an int holds.
  dec.power, walked. No condition beside a length that an int holds.
-/
import Derived.Test.YtffcpmohanhihaaGreatDoorProg
import Derived.WalkKit
import Derived.Lib.Strings
import Derived.Lib.TrimByte
import Derived.Below
import Derived.Lib.Hide
import Derived.IntWalk
import Derived.Test.YtffcpmohanhihaaGreatDoorShelfJ
import Derived.Lib.ConvBytes
import Derived.Lib.SmallJoins
namespace Go.Proofs.YtffcpmohanhihaaGreatDoor
open Go.RowKit
set_option linter.unusedVariables false
def isDig (c : UInt8) : Bool := decide (48 ≤ c.toNat) && decide (c.toNat ≤ 57)
/-- How many digits stand at the head. -/
def digN (l : List UInt8) : Nat := (l.takeWhile isDig).length
theorem digN_le (l : List UInt8) : digN l ≤ l.length := (List.takeWhile_prefix _).length_le
theorem digN_nil : digN [] = 0 := rfl
theorem digN_cons (c : UInt8) (l : List UInt8) : digN (c :: l) = if isDig c then digN l + 1 else 0 := by
  unfold digN; rw [List.takeWhile_cons]; split <;> simp_all
/-- All ahead of k are digits; k is the end or no digit. -/
theorem digN_is (l : List UInt8) (k : Nat) (hk : k ≤ l.length) (h : ∀ j b, j < k → l[j]? = some b → isDig b = true) (he : ∀ b, l[k]? = some b → isDig b = false) : digN l = k := by
  induction l generalizing k with
  | nil => simp at hk; simp [hk, digN]
  | cons c l ih =>
    rw [digN_cons]
    cases k with
    | zero => rw [if_neg (by rw [he c rfl]; decide)]
    | succ k =>
      rw [if_pos (h 0 c (by omega) rfl)]
      rw [ih k (by simpa using hk) (fun j b hj hb => h (j + 1) b (by omega) (by simpa using hb)) (fun b hb => he b (by simpa using hb))]
end Go.Proofs.YtffcpmohanhihaaGreatDoor
namespace Go.Proofs.YtffcpmohanhihaaGreatDoor
set_option linter.unusedVariables false
/-- Digits as a number, as long as it is at most 100000. -/
def pwAcc (v : Nat) : List UInt8 → Option Nat
  | [] => some v
  | c :: l => if 100000 < v * 10 + (c.toNat - 48) then none else pwAcc (v * 10 + (c.toNat - 48)) l
def signed (l : List UInt8) : List UInt8 := if (Lib.hasPrefix l [45] || Lib.hasPrefix l [43]) = true then l.drop 1 else l
/-- What stands behind an e. -/
def powerN (l : List UInt8) : Option Int :=
  if signed l = [] ∨ digN (signed l) ≠ (signed l).length then none else (pwAcc 0 (signed l)).map fun v => if Lib.hasPrefix l [45] = true then -(v : Int) else v
/-- What stands behind a dot: digits, and the rest. -/
def partN (l : List UInt8) : Option (List UInt8 × List UInt8) :=
  if Lib.hasPrefix l [46] = true then (if digN (l.drop 1) = 0 then none else some ((l.drop 1).take (digN (l.drop 1)), l.drop (digN (l.drop 1) + 1))) else some ([], l)
def expN : List UInt8 → Option Int
  | [] => some 0
  | c :: r => if c = 101 ∨ c = 69 then powerN r else none
/-- Sign, digits, power, of what the three parts say. -/
def normN (less : Bool) (whole part : List UInt8) (exp : Int) : Bool × List UInt8 × Int :=
  if Lib.trimLeftB (whole ++ part) 48 = [] then (false, [], 0)
  else (less, Lib.trimRightB (Lib.trimLeftB (whole ++ part) 48) 48, exp + ((whole.length : Int) - 1 - (((whole ++ part).length : Int) - ((Lib.trimLeftB (whole ++ part) 48).length : Int))))
/-- A number's text, read. -/
def parseN (l : List UInt8) : Option (Bool × List UInt8 × Int) :=
  if 400 < l.length then none else
  if digN (Lib.trimPrefix l [45]) = 0 ∨ (1 < digN (Lib.trimPrefix l [45]) ∧ (Lib.trimPrefix l [45]).head? = some 48) then none else
  (partN ((Lib.trimPrefix l [45]).drop (digN (Lib.trimPrefix l [45])))).bind fun pr =>
  (expN pr.2).map fun exp => normN (Lib.hasPrefix l [45]) ((Lib.trimPrefix l [45]).take (digN (Lib.trimPrefix l [45]))) pr.1 exp
theorem all_dig {l : List UInt8} (h : digN l = l.length) (j : Nat) (b : UInt8) (hb : l[j]? = some b) : isDig b = true := by
  induction l generalizing j with
  | nil => simp at hb
  | cons c l ih =>
    rw [digN_cons] at h
    split at h
    · cases j with
      | zero => simp at hb; subst hb; assumption
      | succ j => exact ih (by simpa using h) j (by simpa using hb)
    · simp at h
/-- The next of the bytes that are left: a digit; what is counted with it. -/
theorem dig_next {l : List UInt8} (h : digN l = l.length) {k : Nat} (hk : k < l.length) : ∃ c : Nat, (l.getD k 0).toNat = c ∧ 48 ≤ (c : Int) ∧ (c : Int) ≤ 57 ∧
    ∀ a, pwAcc a (l.drop k) = if 100000 < a * 10 + (c - 48) then none else pwAcc (a * 10 + (c - 48)) (l.drop (k + 1)) := by
  have hk2 : l[k]? = some l[k] := List.getElem?_eq_getElem hk
  have hd := all_dig h k _ hk2
  simp [isDig] at hd
  refine ⟨l[k].toNat, by simp [List.getD_eq_getElem?_getD, hk2], by omega, by omega, fun a => ?_⟩
  rw [List.drop_eq_getElem_cons hk]
  rfl
theorem pwAcc_end (a : Nat) {l : List UInt8} {k : Nat} (hk : l.length ≤ k) : pwAcc a (l.drop k) = some a := by rw [List.drop_of_length_le hk]; rfl
end Go.Proofs.YtffcpmohanhihaaGreatDoor
namespace Go.Proofs.YtffcpmohanhihaaGreatDoor
open Go.RowKit
set_option linter.unusedVariables false
set_option linter.unusedSimpArgs false
set_option maxHeartbeats 1000000 in
theorem digits_any (s : ByteArray) (w : World) (hs : s.size ≤ 9223372036854775806) :
    Calls Tryz.prog 165 #[.string s] w fun e w' => e = .returned (.int .i64 (digN s.data.toList : Nat)) ∧ w' = w := by
  go_enter Tryz.func165, Tryz.ntmps165
  go_wp2
  go_loop [3] (fun v => ∃ k : Nat, k ≤ s.size ∧ v = .int .i64 (k : Int) ∧ ∀ (j : Nat) b, j < k → s.data.toList[j]? = some b → isDig b = true) (fun v => s.size - (intOf v).toNat)
  case atStart => exact ⟨0, Nat.zero_le _, rfl, fun j b hj => absurd hj (Nat.not_lt_zero _)⟩
  case round =>
    obtain ⟨k, hk, rfl, hc⟩ := hrel
    have hkl : k ≤ s.data.toList.length := by rw [← Lib.size_eq]; exact hk
    have hend : (∀ b, s.data.toList[k]? = some b → isDig b = false) → digN s.data.toList = k := digN_is _ _ hkl hc
    have hHc := Lib.hid hc
    have hHe := Lib.hid hend
    clear hc hend
    by_cases h0 : k < s.size
    · have hb : s.data.toList[k]? = some (s[k]'h0) := by
        rw [List.getElem?_eq_getElem (by rw [← Lib.size_eq]; exact h0)]; rfl
      have hHb := Lib.hid hb
      clear hb
      by_cases h1 : 48 ≤ ((s[k]'h0).toNat : Int)
      · by_cases h2 : ((s[k]'h0).toNat : Int) ≤ 57
        · go_wp2
          refine ⟨⟨k + 1, by omega, rfl, fun j b hj hb => ?_⟩, by simp only [intOf]; omega⟩
          by_cases e : j = k
          · subst e
            rw [hHb.out] at hb
            rw [← Option.some.inj hb]
            have h1' : 48 ≤ (s[j]'h0).toNat := by omega
            have h2' : (s[j]'h0).toNat ≤ 57 := by omega
            simp [isDig, h1', h2']
          · exact hHc.out j b (by omega) hb
        · go_wp2
          go_ret
          refine ⟨?_, rfl⟩
          rw [hHe.out (fun b hb => by
            rw [hHb.out] at hb
            rw [← Option.some.inj hb]
            have h2' : ¬ (s[k]'h0).toNat ≤ 57 := by omega
            simp [isDig, h2'])]
          rfl
      · go_wp2
        go_ret
        refine ⟨?_, rfl⟩
        rw [hHe.out (fun b hb => by
          rw [hHb.out] at hb
          rw [← Option.some.inj hb]
          have h1' : ¬ 48 ≤ (s[k]'h0).toNat := by omega
          simp [isDig, h1'])]
        rfl
    · go_wp2
      go_ret
      refine ⟨?_, rfl⟩
      rw [hHe.out (fun b hb => by rw [List.getElem?_eq_none (by rw [← Lib.size_eq]; omega)] at hb; cases hb)]
      rfl
end Go.Proofs.YtffcpmohanhihaaGreatDoor
namespace Go.Proofs.YtffcpmohanhihaaGreatDoor
open Go.RowKit
set_option linter.unusedVariables false
set_option linter.unusedSimpArgs false
theorem powerN_nil {l : List UInt8} {r : List UInt8} (hr : signed l = r) (h : r = []) : powerN l = none := by subst hr; unfold powerN; rw [if_pos (.inl h)]
theorem powerN_odd {l : List UInt8} {r : List UInt8} (hr : signed l = r) (h : digN r ≠ r.length) : powerN l = none := by subst hr; unfold powerN; rw [if_pos (.inr h)]
theorem powerN_is {l : List UInt8} {r : List UInt8} {b : Bool} (hr : signed l = r) (hb : Lib.hasPrefix l [45] = b) (h0 : r ≠ []) (h : digN r = r.length) : powerN l = (pwAcc 0 r).map fun v => if b = true then -(v : Int) else v := by
  subst hr; subst hb; unfold powerN; rw [if_neg (by simp [h0, h])]
theorem extract1 (s : ByteArray) : (s.extract 1 s.size).data.toList = s.data.toList.drop 1 := by
  rw [Lib.extract_data, List.take_of_length_le (by rw [List.length_drop, Lib.size_eq]; omega)]
theorem extract1_size (s : ByteArray) : (s.extract 1 s.size).size ≤ s.size := by rw [Lib.size_eq, extract1, List.length_drop, Lib.size_eq]; omega
theorem prefix_pos {s : ByteArray} {c : UInt8} (h : Lib.hasPrefix s.data.toList [c] = true) : 1 ≤ (s.size : Int) := by
  rw [Lib.size_eq]
  cases hl : s.data.toList with
  | nil => rw [hl] at h; simp [Lib.hasPrefix] at h
  | cons a l => simp; omega
set_option maxRecDepth 100000 in
set_option maxHeartbeats 1000000 in
theorem power_plain (s : ByteArray) (w : World) (hs : s.size ≤ 9223372036854775806) (hb : Lib.hasPrefix s.data.toList [45] = false) (hc : Lib.hasPrefix s.data.toList [43] = false) :
    Calls Tryz.prog 167 #[.string s] w fun e w' => e = .returned (.tuple #[.int .i64 ((powerN s.data.toList).getD 0), .bool (powerN s.data.toList).isSome]) ∧ Below w.heap.size w w' := by
  have hr : signed s.data.toList = s.data.toList := by unfold signed; rw [hb, hc]; rfl
  have hts : s.size ≤ 9223372036854775806 := hs
  have hlt : (s).data.toList.length = (s).size := (Lib.size_eq (s)).symm
  by_cases hemp : (s).toList = []
  · have hnil : (s).data.toList = [] := by rw [← Lib.toList_data]; exact hemp
    have hp := powerN_nil hr hnil
    have hp2 := Lib.hid hp
    clear hp hr hnil hlt
    go_enter Tryz.func167, Tryz.ntmps167
    go_wp2_with (go_at_call 166; refine (Tryz.strings_HasPrefix _ _ _).mono ?_; rintro e w' ⟨rfl, hw⟩; rw [hw]; clear hw; first | rw [hb] | rw [hc])
    go_ret2
    rw [hp2.out]
    exact ⟨rfl, Below.refl _ _⟩
  · have hnil : (s).data.toList ≠ [] := by rw [← Lib.toList_data]; exact hemp
    have hie : (s).toList.isEmpty = false := by simp [hemp]
    by_cases hdig : digN (s).data.toList = (s).size
    · have hp := powerN_is hr hb hnil (by rw [hdig, hlt])
      have hp2 := Lib.hid hp
      have hd2 := Lib.hid hdig
      have hlt2 := Lib.hid hlt
      clear hp hr hlt hdig hnil
      go_enter Tryz.func167, Tryz.ntmps167
      go_wp2_with (first | (go_at_call 166; refine (Tryz.strings_HasPrefix _ _ _).mono ?_; rintro e w' ⟨rfl, hw⟩; rw [hw]; clear hw; first | rw [hb] | rw [hc]) | (go_at_call 165; refine (digits_any _ _ hts).mono ?_; rintro e w1 ⟨rfl, hw⟩; rw [hw, hd2.out]; clear hw) | (rw [Lib.run_convert_string_bytes _ 9 105 5 _ Tryz.underlying9 Tryz.underlying105 Tryz.underlying5]))
      have hbel := Lib.hid (Joins.below_bytesWorld w.heap.size w 5 s (Nat.le_refl _))
      go_loop [5, 29] (fun v i => ∃ (k a : Nat), k ≤ (s).size ∧ v = .int .i64 (a : Int) ∧ i = .int .i64 (k : Int) ∧ a ≤ 100000 ∧ pwAcc 0 (s).data.toList = pwAcc a ((s).data.toList.drop k)) (fun _ i => (s).size - (intOf i).toNat)
      case atStart => exact ⟨0, 0, Nat.zero_le _, rfl, rfl, by omega, by simp⟩
      case round =>
        obtain ⟨k, a, hk, rfl, rfl, ha, hacc⟩ := hrel
        by_cases hlt : k < (s).size
        · obtain ⟨c, hc0, hc1, hc2, hstep⟩ := dig_next (hd2.out.trans hlt2.out.symm) (k := k) (by rw [hlt2.out]; exact hlt)
          have hcell := Lib.bytesWorld_cell w 5 s k hlt
          rw [hc0] at hcell
          rw [hstep a] at hacc
          by_cases hbig : 100000 < a * 10 + (c - 48)
          · rw [if_pos hbig] at hacc
            rw [hacc] at hp2
            have hbig2 : (100000 : Int) < (a : Int) * 10 + ((c : Int) - 48) := by omega
            clear hstep hacc hc0
            go_wp2
            go_ret2
            rw [hp2.out]
            exact ⟨rfl, hbel.out⟩
          · rw [if_neg hbig] at hacc
            have hbig2 : (a : Int) * 10 + ((c : Int) - 48) ≤ 100000 := by omega
            have hacc2 := Lib.hid hacc
            clear hstep hacc hc0
            go_wp2
            exact ⟨⟨k + 1, a * 10 + (c - 48), by omega, by rw [show ((a * 10 + (c - 48) : Nat) : Int) = (a : Int) * 10 + ((c : Int) - 48) by omega], rfl, by omega, hacc2.out⟩, by simp only [intOf]; omega⟩
        · obtain rfl : k = (s).size := by omega
          rw [pwAcc_end a (Nat.le_of_eq hlt2.out)] at hacc
          rw [hacc] at hp2
          clear hacc
          go_wp2
          go_ret2
          rw [hp2.out]
          exact ⟨rfl, hbel.out⟩
    · have hp := powerN_odd hr (by rw [hlt]; exact hdig)
      have hp2 := Lib.hid hp
      have hne : ¬ ((digN (s).data.toList : Int) = ((s).size : Int)) := by omega
      clear hp hr hlt hdig hnil
      go_enter Tryz.func167, Tryz.ntmps167
      go_wp2_with (first | (go_at_call 166; refine (Tryz.strings_HasPrefix _ _ _).mono ?_; rintro e w' ⟨rfl, hw⟩; rw [hw]; clear hw; first | rw [hb] | rw [hc]) | (go_at_call 165; refine (digits_any _ _ hts).mono ?_; rintro e w1 ⟨rfl, hw⟩; rw [hw]; clear hw))
      go_ret2
      rw [hp2.out]
      exact ⟨rfl, Below.refl _ _⟩
set_option maxRecDepth 100000 in
set_option maxHeartbeats 1000000 in
theorem power_minus (s : ByteArray) (w : World) (hs : s.size ≤ 9223372036854775806) (hb : Lib.hasPrefix s.data.toList [45] = true) :
    Calls Tryz.prog 167 #[.string s] w fun e w' => e = .returned (.tuple #[.int .i64 ((powerN s.data.toList).getD 0), .bool (powerN s.data.toList).isSome]) ∧ Below w.heap.size w w' := by
  have hr : signed s.data.toList = (s.extract 1 s.size).data.toList := by unfold signed; rw [hb]; exact (extract1 s).symm
  have hts : (s.extract 1 s.size).size ≤ 9223372036854775806 := Nat.le_trans (extract1_size s) hs
  have hs1 : 1 ≤ (s.size : Int) := prefix_pos hb
  have hc := hb
  obtain ⟨t, hx1⟩ : ∃ t, s.extract 1 s.size = t := ⟨_, rfl⟩
  rw [hx1] at hr hts
  have hlt : (t).data.toList.length = (t).size := (Lib.size_eq (t)).symm
  by_cases hemp : (t).toList = []
  · have hnil : (t).data.toList = [] := by rw [← Lib.toList_data]; exact hemp
    have hp := powerN_nil hr hnil
    have hp2 := Lib.hid hp
    clear hp hr hnil hlt
    go_enter Tryz.func167, Tryz.ntmps167
    go_wp2_with (go_at_call 166; refine (Tryz.strings_HasPrefix _ _ _).mono ?_; rintro e w' ⟨rfl, hw⟩; rw [hw]; clear hw; first | rw [hb] | rw [hc])
    go_ret2
    rw [hp2.out]
    exact ⟨rfl, Below.refl _ _⟩
  · have hnil : (t).data.toList ≠ [] := by rw [← Lib.toList_data]; exact hemp
    have hie : (t).toList.isEmpty = false := by simp [hemp]
    by_cases hdig : digN (t).data.toList = (t).size
    · have hp := powerN_is hr hb hnil (by rw [hdig, hlt])
      have hp2 := Lib.hid hp
      have hd2 := Lib.hid hdig
      have hlt2 := Lib.hid hlt
      clear hp hr hlt hdig hnil
      go_enter Tryz.func167, Tryz.ntmps167
      go_wp2_with (first | (go_at_call 166; refine (Tryz.strings_HasPrefix _ _ _).mono ?_; rintro e w' ⟨rfl, hw⟩; rw [hw]; clear hw; first | rw [hb] | rw [hc]) | (go_at_call 165; refine (digits_any _ _ hts).mono ?_; rintro e w1 ⟨rfl, hw⟩; rw [hw, hd2.out]; clear hw) | (rw [Lib.run_convert_string_bytes _ 9 105 5 _ Tryz.underlying9 Tryz.underlying105 Tryz.underlying5]))
      have hbel := Lib.hid (Joins.below_bytesWorld w.heap.size w 5 t (Nat.le_refl _))
      go_loop [5, 29] (fun v i => ∃ (k a : Nat), k ≤ (t).size ∧ v = .int .i64 (a : Int) ∧ i = .int .i64 (k : Int) ∧ a ≤ 100000 ∧ pwAcc 0 (t).data.toList = pwAcc a ((t).data.toList.drop k)) (fun _ i => (t).size - (intOf i).toNat)
      case atStart => exact ⟨0, 0, Nat.zero_le _, rfl, rfl, by omega, by simp⟩
      case round =>
        obtain ⟨k, a, hk, rfl, rfl, ha, hacc⟩ := hrel
        by_cases hlt : k < (t).size
        · obtain ⟨c, hc0, hc1, hc2, hstep⟩ := dig_next (hd2.out.trans hlt2.out.symm) (k := k) (by rw [hlt2.out]; exact hlt)
          have hcell := Lib.bytesWorld_cell w 5 t k hlt
          rw [hc0] at hcell
          rw [hstep a] at hacc
          by_cases hbig : 100000 < a * 10 + (c - 48)
          · rw [if_pos hbig] at hacc
            rw [hacc] at hp2
            have hbig2 : (100000 : Int) < (a : Int) * 10 + ((c : Int) - 48) := by omega
            clear hstep hacc hc0
            go_wp2
            go_ret2
            rw [hp2.out]
            exact ⟨rfl, hbel.out⟩
          · rw [if_neg hbig] at hacc
            have hbig2 : (a : Int) * 10 + ((c : Int) - 48) ≤ 100000 := by omega
            have hacc2 := Lib.hid hacc
            clear hstep hacc hc0
            go_wp2
            exact ⟨⟨k + 1, a * 10 + (c - 48), by omega, by rw [show ((a * 10 + (c - 48) : Nat) : Int) = (a : Int) * 10 + ((c : Int) - 48) by omega], rfl, by omega, hacc2.out⟩, by simp only [intOf]; omega⟩
        · obtain rfl : k = (t).size := by omega
          rw [pwAcc_end a (Nat.le_of_eq hlt2.out)] at hacc
          rw [hacc] at hp2
          clear hacc
          go_wp2
          go_ret2
          rw [hp2.out]
          exact ⟨rfl, hbel.out⟩
    · have hp := powerN_odd hr (by rw [hlt]; exact hdig)
      have hp2 := Lib.hid hp
      have hne : ¬ ((digN (t).data.toList : Int) = ((t).size : Int)) := by omega
      clear hp hr hlt hdig hnil
      go_enter Tryz.func167, Tryz.ntmps167
      go_wp2_with (first | (go_at_call 166; refine (Tryz.strings_HasPrefix _ _ _).mono ?_; rintro e w' ⟨rfl, hw⟩; rw [hw]; clear hw; first | rw [hb] | rw [hc]) | (go_at_call 165; refine (digits_any _ _ hts).mono ?_; rintro e w1 ⟨rfl, hw⟩; rw [hw]; clear hw))
      go_ret2
      rw [hp2.out]
      exact ⟨rfl, Below.refl _ _⟩
set_option maxRecDepth 100000 in
set_option maxHeartbeats 1000000 in
theorem power_plus (s : ByteArray) (w : World) (hs : s.size ≤ 9223372036854775806) (hb : Lib.hasPrefix s.data.toList [45] = false) (hc : Lib.hasPrefix s.data.toList [43] = true) :
    Calls Tryz.prog 167 #[.string s] w fun e w' => e = .returned (.tuple #[.int .i64 ((powerN s.data.toList).getD 0), .bool (powerN s.data.toList).isSome]) ∧ Below w.heap.size w w' := by
  have hr : signed s.data.toList = (s.extract 1 s.size).data.toList := by unfold signed; rw [hb, hc]; exact (extract1 s).symm
  have hts : (s.extract 1 s.size).size ≤ 9223372036854775806 := Nat.le_trans (extract1_size s) hs
  have hs1 : 1 ≤ (s.size : Int) := prefix_pos hc
  obtain ⟨t, hx1⟩ : ∃ t, s.extract 1 s.size = t := ⟨_, rfl⟩
  rw [hx1] at hr hts
  have hlt : (t).data.toList.length = (t).size := (Lib.size_eq (t)).symm
  by_cases hemp : (t).toList = []
  · have hnil : (t).data.toList = [] := by rw [← Lib.toList_data]; exact hemp
    have hp := powerN_nil hr hnil
    have hp2 := Lib.hid hp
    clear hp hr hnil hlt
    go_enter Tryz.func167, Tryz.ntmps167
    go_wp2_with (go_at_call 166; refine (Tryz.strings_HasPrefix _ _ _).mono ?_; rintro e w' ⟨rfl, hw⟩; rw [hw]; clear hw; first | rw [hb] | rw [hc])
    go_ret2
    rw [hp2.out]
    exact ⟨rfl, Below.refl _ _⟩
  · have hnil : (t).data.toList ≠ [] := by rw [← Lib.toList_data]; exact hemp
    have hie : (t).toList.isEmpty = false := by simp [hemp]
    by_cases hdig : digN (t).data.toList = (t).size
    · have hp := powerN_is hr hb hnil (by rw [hdig, hlt])
      have hp2 := Lib.hid hp
      have hd2 := Lib.hid hdig
      have hlt2 := Lib.hid hlt
      clear hp hr hlt hdig hnil
      go_enter Tryz.func167, Tryz.ntmps167
      go_wp2_with (first | (go_at_call 166; refine (Tryz.strings_HasPrefix _ _ _).mono ?_; rintro e w' ⟨rfl, hw⟩; rw [hw]; clear hw; first | rw [hb] | rw [hc]) | (go_at_call 165; refine (digits_any _ _ hts).mono ?_; rintro e w1 ⟨rfl, hw⟩; rw [hw, hd2.out]; clear hw) | (rw [Lib.run_convert_string_bytes _ 9 105 5 _ Tryz.underlying9 Tryz.underlying105 Tryz.underlying5]))
      have hbel := Lib.hid (Joins.below_bytesWorld w.heap.size w 5 t (Nat.le_refl _))
      go_loop [5, 29] (fun v i => ∃ (k a : Nat), k ≤ (t).size ∧ v = .int .i64 (a : Int) ∧ i = .int .i64 (k : Int) ∧ a ≤ 100000 ∧ pwAcc 0 (t).data.toList = pwAcc a ((t).data.toList.drop k)) (fun _ i => (t).size - (intOf i).toNat)
      case atStart => exact ⟨0, 0, Nat.zero_le _, rfl, rfl, by omega, by simp⟩
      case round =>
        obtain ⟨k, a, hk, rfl, rfl, ha, hacc⟩ := hrel
        by_cases hlt : k < (t).size
        · obtain ⟨c, hc0, hc1, hc2, hstep⟩ := dig_next (hd2.out.trans hlt2.out.symm) (k := k) (by rw [hlt2.out]; exact hlt)
          have hcell := Lib.bytesWorld_cell w 5 t k hlt
          rw [hc0] at hcell
          rw [hstep a] at hacc
          by_cases hbig : 100000 < a * 10 + (c - 48)
          · rw [if_pos hbig] at hacc
            rw [hacc] at hp2
            have hbig2 : (100000 : Int) < (a : Int) * 10 + ((c : Int) - 48) := by omega
            clear hstep hacc hc0
            go_wp2
            go_ret2
            rw [hp2.out]
            exact ⟨rfl, hbel.out⟩
          · rw [if_neg hbig] at hacc
            have hbig2 : (a : Int) * 10 + ((c : Int) - 48) ≤ 100000 := by omega
            have hacc2 := Lib.hid hacc
            clear hstep hacc hc0
            go_wp2
            exact ⟨⟨k + 1, a * 10 + (c - 48), by omega, by rw [show ((a * 10 + (c - 48) : Nat) : Int) = (a : Int) * 10 + ((c : Int) - 48) by omega], rfl, by omega, hacc2.out⟩, by simp only [intOf]; omega⟩
        · obtain rfl : k = (t).size := by omega
          rw [pwAcc_end a (Nat.le_of_eq hlt2.out)] at hacc
          rw [hacc] at hp2
          clear hacc
          go_wp2
          go_ret2
          rw [hp2.out]
          exact ⟨rfl, hbel.out⟩
    · have hp := powerN_odd hr (by rw [hlt]; exact hdig)
      have hp2 := Lib.hid hp
      have hne : ¬ ((digN (t).data.toList : Int) = ((t).size : Int)) := by omega
      clear hp hr hlt hdig hnil
      go_enter Tryz.func167, Tryz.ntmps167
      go_wp2_with (first | (go_at_call 166; refine (Tryz.strings_HasPrefix _ _ _).mono ?_; rintro e w' ⟨rfl, hw⟩; rw [hw]; clear hw; first | rw [hb] | rw [hc]) | (go_at_call 165; refine (digits_any _ _ hts).mono ?_; rintro e w1 ⟨rfl, hw⟩; rw [hw]; clear hw))
      go_ret2
      rw [hp2.out]
      exact ⟨rfl, Below.refl _ _⟩
theorem power_any (s : ByteArray) (w : World) (hs : s.size ≤ 9223372036854775806) :
    Calls Tryz.prog 167 #[.string s] w fun e w' => e = .returned (.tuple #[.int .i64 ((powerN s.data.toList).getD 0), .bool (powerN s.data.toList).isSome]) ∧ Below w.heap.size w w' := by
  cases hb : Lib.hasPrefix s.data.toList [45]
  · cases hc : Lib.hasPrefix s.data.toList [43]
    · exact power_plain s w hs hb hc
    · exact power_plus s w hs hb hc
  · exact power_minus s w hs hb
end Go.Proofs.YtffcpmohanhihaaGreatDoor
