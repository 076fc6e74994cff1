/-
  dec.power, walked. No condition beside a length that an int holds.
-/
import Derived.Test.YteplcnpmdjdlkaaGreatDoorJ1
import Derived.Test.YteplcnpmdjdlkaaGreatDoorShelfJ
import Derived.Lib.ConvBytes
import Derived.Lib.SmallJoins
namespace Go.Proofs.YteplcnpmdjdlkaaGreatDoor
open Go.RowKit
set_option linter.unusedVariables false
set_option linter.unusedSimpArgs false
theorem powerN_nil {l : List UInt8} {r : List UInt8} (hr : signed l = r) (h : r = []) : powerN l = none := by subst hr; unfold powerN; rw [if_pos (.inl h)]
theorem powerN_odd {l : List UInt8} {r : List UInt8} (hr : signed l = r) (h : digN r ≠ r.length) : powerN l = none := by subst hr; unfold powerN; rw [if_pos (.inr h)]
theorem powerN_is {l : List UInt8} {r : List UInt8} {b : Bool} (hr : signed l = r) (hb : Lib.hasPrefix l [45] = b) (h0 : r ≠ []) (h : digN r = r.length) : powerN l = (pwAcc 0 r).map fun v => if b = true then -(v : Int) else v := by
  subst hr; subst hb; unfold powerN; rw [if_neg (by simp [h0, h])]
theorem extract1 (s : ByteArray) : (s.extract 1 s.size).data.toList = s.data.toList.drop 1 := by
  rw [Lib.extract_data, List.take_of_length_le (by rw [List.length_drop, Lib.size_eq]; omega)]
theorem extract1_size (s : ByteArray) : (s.extract 1 s.size).size ≤ s.size := by rw [Lib.size_eq, extract1, List.length_drop, Lib.size_eq]; omega
theorem prefix_pos {s : ByteArray} {c : UInt8} (h : Lib.hasPrefix s.data.toList [c] = true) : 1 ≤ (s.size : Int) := by
  rw [Lib.size_eq]
  cases hl : s.data.toList with
  | nil => rw [hl] at h; simp [Lib.hasPrefix] at h
  | cons a l => simp; omega
set_option maxRecDepth 100000 in
set_option maxHeartbeats 1000000 in
theorem power_plain (s : ByteArray) (w : World) (hs : s.size ≤ 9223372036854775806) (hb : Lib.hasPrefix s.data.toList [45] = false) (hc : Lib.hasPrefix s.data.toList [43] = false) :
    Calls Tryz.prog 114 #[.string s] w fun e w' => e = .returned (.tuple #[.int .i64 ((powerN s.data.toList).getD 0), .bool (powerN s.data.toList).isSome]) ∧ Below w.heap.size w w' := by
  have hr : signed s.data.toList = s.data.toList := by unfold signed; rw [hb, hc]; rfl
  have hts : s.size ≤ 9223372036854775806 := hs
  have hlt : (s).data.toList.length = (s).size := (Lib.size_eq (s)).symm
  by_cases hemp : (s).toList = []
  · have hnil : (s).data.toList = [] := by rw [← Lib.toList_data]; exact hemp
    have hp := powerN_nil hr hnil
    have hp2 := Lib.hid hp
    clear hp hr hnil hlt
    go_enter Tryz.func114, Tryz.ntmps114
    go_wp2_with (go_at_call 113; refine (Tryz.strings_HasPrefix _ _ _).mono ?_; rintro e w' ⟨rfl, hw⟩; rw [hw]; clear hw; first | rw [hb] | rw [hc])
    go_ret2
    rw [hp2.out]
    exact ⟨rfl, Below.refl _ _⟩
  · have hnil : (s).data.toList ≠ [] := by rw [← Lib.toList_data]; exact hemp
    have hie : (s).toList.isEmpty = false := by simp [hemp]
    by_cases hdig : digN (s).data.toList = (s).size
    · have hp := powerN_is hr hb hnil (by rw [hdig, hlt])
      have hp2 := Lib.hid hp
      have hd2 := Lib.hid hdig
      have hlt2 := Lib.hid hlt
      clear hp hr hlt hdig hnil
      go_enter Tryz.func114, Tryz.ntmps114
      go_wp2_with (first | (go_at_call 113; refine (Tryz.strings_HasPrefix _ _ _).mono ?_; rintro e w' ⟨rfl, hw⟩; rw [hw]; clear hw; first | rw [hb] | rw [hc]) | (go_at_call 112; refine (digits_any _ _ hts).mono ?_; rintro e w1 ⟨rfl, hw⟩; rw [hw, hd2.out]; clear hw) | (rw [Lib.run_convert_string_bytes _ 9 122 5 _ Tryz.underlying9 Tryz.underlying122 Tryz.underlying5]))
      have hbel := Lib.hid (Joins.below_bytesWorld w.heap.size w 5 s (Nat.le_refl _))
      go_loop [5, 29] (fun v i => ∃ (k a : Nat), k ≤ (s).size ∧ v = .int .i64 (a : Int) ∧ i = .int .i64 (k : Int) ∧ a ≤ 100000 ∧ pwAcc 0 (s).data.toList = pwAcc a ((s).data.toList.drop k)) (fun _ i => (s).size - (intOf i).toNat)
      case atStart => exact ⟨0, 0, Nat.zero_le _, rfl, rfl, by omega, by simp⟩
      case round =>
        obtain ⟨k, a, hk, rfl, rfl, ha, hacc⟩ := hrel
        by_cases hlt : k < (s).size
        · obtain ⟨c, hc0, hc1, hc2, hstep⟩ := dig_next (hd2.out.trans hlt2.out.symm) (k := k) (by rw [hlt2.out]; exact hlt)
          have hcell := Lib.bytesWorld_cell w 5 s k hlt
          rw [hc0] at hcell
          rw [hstep a] at hacc
          by_cases hbig : 100000 < a * 10 + (c - 48)
          · rw [if_pos hbig] at hacc
            rw [hacc] at hp2
            have hbig2 : (100000 : Int) < (a : Int) * 10 + ((c : Int) - 48) := by omega
            clear hstep hacc hc0
            go_wp2
            go_ret2
            rw [hp2.out]
            exact ⟨rfl, hbel.out⟩
          · rw [if_neg hbig] at hacc
            have hbig2 : (a : Int) * 10 + ((c : Int) - 48) ≤ 100000 := by omega
            have hacc2 := Lib.hid hacc
            clear hstep hacc hc0
            go_wp2
            exact ⟨⟨k + 1, a * 10 + (c - 48), by omega, by rw [show ((a * 10 + (c - 48) : Nat) : Int) = (a : Int) * 10 + ((c : Int) - 48) by omega], rfl, by omega, hacc2.out⟩, by simp only [intOf]; omega⟩
        · obtain rfl : k = (s).size := by omega
          rw [pwAcc_end a (Nat.le_of_eq hlt2.out)] at hacc
          rw [hacc] at hp2
          clear hacc
          go_wp2
          go_ret2
          rw [hp2.out]
          exact ⟨rfl, hbel.out⟩
    · have hp := powerN_odd hr (by rw [hlt]; exact hdig)
      have hp2 := Lib.hid hp
      have hne : ¬ ((digN (s).data.toList : Int) = ((s).size : Int)) := by omega
      clear hp hr hlt hdig hnil
      go_enter Tryz.func114, Tryz.ntmps114
      go_wp2_with (first | (go_at_call 113; refine (Tryz.strings_HasPrefix _ _ _).mono ?_; rintro e w' ⟨rfl, hw⟩; rw [hw]; clear hw; first | rw [hb] | rw [hc]) | (go_at_call 112; refine (digits_any _ _ hts).mono ?_; rintro e w1 ⟨rfl, hw⟩; rw [hw]; clear hw))
      go_ret2
      rw [hp2.out]
      exact ⟨rfl, Below.refl _ _⟩
set_option maxRecDepth 100000 in
set_option maxHeartbeats 1000000 in
theorem power_minus (s : ByteArray) (w : World) (hs : s.size ≤ 9223372036854775806) (hb : Lib.hasPrefix s.data.toList [45] = true) :
    Calls Tryz.prog 114 #[.string s] w fun e w' => e = .returned (.tuple #[.int .i64 ((powerN s.data.toList).getD 0), .bool (powerN s.data.toList).isSome]) ∧ Below w.heap.size w w' := by
  have hr : signed s.data.toList = (s.extract 1 s.size).data.toList := by unfold signed; rw [hb]; exact (extract1 s).symm
  have hts : (s.extract 1 s.size).size ≤ 9223372036854775806 := Nat.le_trans (extract1_size s) hs
  have hs1 : 1 ≤ (s.size : Int) := prefix_pos hb
  have hc := hb
  obtain ⟨t, hx1⟩ : ∃ t, s.extract 1 s.size = t := ⟨_, rfl⟩
  rw [hx1] at hr hts
  have hlt : (t).data.toList.length = (t).size := (Lib.size_eq (t)).symm
  by_cases hemp : (t).toList = []
  · have hnil : (t).data.toList = [] := by rw [← Lib.toList_data]; exact hemp
    have hp := powerN_nil hr hnil
    have hp2 := Lib.hid hp
    clear hp hr hnil hlt
    go_enter Tryz.func114, Tryz.ntmps114
    go_wp2_with (go_at_call 113; refine (Tryz.strings_HasPrefix _ _ _).mono ?_; rintro e w' ⟨rfl, hw⟩; rw [hw]; clear hw; first | rw [hb] | rw [hc])
    go_ret2
    rw [hp2.out]
    exact ⟨rfl, Below.refl _ _⟩
  · have hnil : (t).data.toList ≠ [] := by rw [← Lib.toList_data]; exact hemp
    have hie : (t).toList.isEmpty = false := by simp [hemp]
    by_cases hdig : digN (t).data.toList = (t).size
    · have hp := powerN_is hr hb hnil (by rw [hdig, hlt])
      have hp2 := Lib.hid hp
      have hd2 := Lib.hid hdig
      have hlt2 := Lib.hid hlt
      clear hp hr hlt hdig hnil
      go_enter Tryz.func114, Tryz.ntmps114
      go_wp2_with (first | (go_at_call 113; refine (Tryz.strings_HasPrefix _ _ _).mono ?_; rintro e w' ⟨rfl, hw⟩; rw [hw]; clear hw; first | rw [hb] | rw [hc]) | (go_at_call 112; refine (digits_any _ _ hts).mono ?_; rintro e w1 ⟨rfl, hw⟩; rw [hw, hd2.out]; clear hw) | (rw [Lib.run_convert_string_bytes _ 9 122 5 _ Tryz.underlying9 Tryz.underlying122 Tryz.underlying5]))
      have hbel := Lib.hid (Joins.below_bytesWorld w.heap.size w 5 t (Nat.le_refl _))
      go_loop [5, 29] (fun v i => ∃ (k a : Nat), k ≤ (t).size ∧ v = .int .i64 (a : Int) ∧ i = .int .i64 (k : Int) ∧ a ≤ 100000 ∧ pwAcc 0 (t).data.toList = pwAcc a ((t).data.toList.drop k)) (fun _ i => (t).size - (intOf i).toNat)
      case atStart => exact ⟨0, 0, Nat.zero_le _, rfl, rfl, by omega, by simp⟩
      case round =>
        obtain ⟨k, a, hk, rfl, rfl, ha, hacc⟩ := hrel
        by_cases hlt : k < (t).size
        · obtain ⟨c, hc0, hc1, hc2, hstep⟩ := dig_next (hd2.out.trans hlt2.out.symm) (k := k) (by rw [hlt2.out]; exact hlt)
          have hcell := Lib.bytesWorld_cell w 5 t k hlt
          rw [hc0] at hcell
          rw [hstep a] at hacc
          by_cases hbig : 100000 < a * 10 + (c - 48)
          · rw [if_pos hbig] at hacc
            rw [hacc] at hp2
            have hbig2 : (100000 : Int) < (a : Int) * 10 + ((c : Int) - 48) := by omega
            clear hstep hacc hc0
            go_wp2
            go_ret2
            rw [hp2.out]
            exact ⟨rfl, hbel.out⟩
          · rw [if_neg hbig] at hacc
            have hbig2 : (a : Int) * 10 + ((c : Int) - 48) ≤ 100000 := by omega
            have hacc2 := Lib.hid hacc
            clear hstep hacc hc0
            go_wp2
            exact ⟨⟨k + 1, a * 10 + (c - 48), by omega, by rw [show ((a * 10 + (c - 48) : Nat) : Int) = (a : Int) * 10 + ((c : Int) - 48) by omega], rfl, by omega, hacc2.out⟩, by simp only [intOf]; omega⟩
        · obtain rfl : k = (t).size := by omega
          rw [pwAcc_end a (Nat.le_of_eq hlt2.out)] at hacc
          rw [hacc] at hp2
          clear hacc
          go_wp2
          go_ret2
          rw [hp2.out]
          exact ⟨rfl, hbel.out⟩
    · have hp := powerN_odd hr (by rw [hlt]; exact hdig)
      have hp2 := Lib.hid hp
      have hne : ¬ ((digN (t).data.toList : Int) = ((t).size : Int)) := by omega
      clear hp hr hlt hdig hnil
      go_enter Tryz.func114, Tryz.ntmps114
      go_wp2_with (first | (go_at_call 113; refine (Tryz.strings_HasPrefix _ _ _).mono ?_; rintro e w' ⟨rfl, hw⟩; rw [hw]; clear hw; first | rw [hb] | rw [hc]) | (go_at_call 112; refine (digits_any _ _ hts).mono ?_; rintro e w1 ⟨rfl, hw⟩; rw [hw]; clear hw))
      go_ret2
      rw [hp2.out]
      exact ⟨rfl, Below.refl _ _⟩
set_option maxRecDepth 100000 in
set_option maxHeartbeats 1000000 in
theorem power_plus (s : ByteArray) (w : World) (hs : s.size ≤ 9223372036854775806) (hb : Lib.hasPrefix s.data.toList [45] = false) (hc : Lib.hasPrefix s.data.toList [43] = true) :
    Calls Tryz.prog 114 #[.string s] w fun e w' => e = .returned (.tuple #[.int .i64 ((powerN s.data.toList).getD 0), .bool (powerN s.data.toList).isSome]) ∧ Below w.heap.size w w' := by
  have hr : signed s.data.toList = (s.extract 1 s.size).data.toList := by unfold signed; rw [hb, hc]; exact (extract1 s).symm
  have hts : (s.extract 1 s.size).size ≤ 9223372036854775806 := Nat.le_trans (extract1_size s) hs
  have hs1 : 1 ≤ (s.size : Int) := prefix_pos hc
  obtain ⟨t, hx1⟩ : ∃ t, s.extract 1 s.size = t := ⟨_, rfl⟩
  rw [hx1] at hr hts
  have hlt : (t).data.toList.length = (t).size := (Lib.size_eq (t)).symm
  by_cases hemp : (t).toList = []
  · have hnil : (t).data.toList = [] := by rw [← Lib.toList_data]; exact hemp
    have hp := powerN_nil hr hnil
    have hp2 := Lib.hid hp
    clear hp hr hnil hlt
    go_enter Tryz.func114, Tryz.ntmps114
    go_wp2_with (go_at_call 113; refine (Tryz.strings_HasPrefix _ _ _).mono ?_; rintro e w' ⟨rfl, hw⟩; rw [hw]; clear hw; first | rw [hb] | rw [hc])
    go_ret2
    rw [hp2.out]
    exact ⟨rfl, Below.refl _ _⟩
  · have hnil : (t).data.toList ≠ [] := by rw [← Lib.toList_data]; exact hemp
    have hie : (t).toList.isEmpty = false := by simp [hemp]
    by_cases hdig : digN (t).data.toList = (t).size
    · have hp := powerN_is hr hb hnil (by rw [hdig, hlt])
      have hp2 := Lib.hid hp
      have hd2 := Lib.hid hdig
      have hlt2 := Lib.hid hlt
      clear hp hr hlt hdig hnil
      go_enter Tryz.func114, Tryz.ntmps114
      go_wp2_with (first | (go_at_call 113; refine (Tryz.strings_HasPrefix _ _ _).mono ?_; rintro e w' ⟨rfl, hw⟩; rw [hw]; clear hw; first | rw [hb] | rw [hc]) | (go_at_call 112; refine (digits_any _ _ hts).mono ?_; rintro e w1 ⟨rfl, hw⟩; rw [hw, hd2.out]; clear hw) | (rw [Lib.run_convert_string_bytes _ 9 122 5 _ Tryz.underlying9 Tryz.underlying122 Tryz.underlying5]))
      have hbel := Lib.hid (Joins.below_bytesWorld w.heap.size w 5 t (Nat.le_refl _))
      go_loop [5, 29] (fun v i => ∃ (k a : Nat), k ≤ (t).size ∧ v = .int .i64 (a : Int) ∧ i = .int .i64 (k : Int) ∧ a ≤ 100000 ∧ pwAcc 0 (t).data.toList = pwAcc a ((t).data.toList.drop k)) (fun _ i => (t).size - (intOf i).toNat)
      case atStart => exact ⟨0, 0, Nat.zero_le _, rfl, rfl, by omega, by simp⟩
      case round =>
        obtain ⟨k, a, hk, rfl, rfl, ha, hacc⟩ := hrel
        by_cases hlt : k < (t).size
        · obtain ⟨c, hc0, hc1, hc2, hstep⟩ := dig_next (hd2.out.trans hlt2.out.symm) (k := k) (by rw [hlt2.out]; exact hlt)
          have hcell := Lib.bytesWorld_cell w 5 t k hlt
          rw [hc0] at hcell
          rw [hstep a] at hacc
          by_cases hbig : 100000 < a * 10 + (c - 48)
          · rw [if_pos hbig] at hacc
            rw [hacc] at hp2
            have hbig2 : (100000 : Int) < (a : Int) * 10 + ((c : Int) - 48) := by omega
            clear hstep hacc hc0
            go_wp2
            go_ret2
            rw [hp2.out]
            exact ⟨rfl, hbel.out⟩
          · rw [if_neg hbig] at hacc
            have hbig2 : (a : Int) * 10 + ((c : Int) - 48) ≤ 100000 := by omega
            have hacc2 := Lib.hid hacc
            clear hstep hacc hc0
            go_wp2
            exact ⟨⟨k + 1, a * 10 + (c - 48), by omega, by rw [show ((a * 10 + (c - 48) : Nat) : Int) = (a : Int) * 10 + ((c : Int) - 48) by omega], rfl, by omega, hacc2.out⟩, by simp only [intOf]; omega⟩
        · obtain rfl : k = (t).size := by omega
          rw [pwAcc_end a (Nat.le_of_eq hlt2.out)] at hacc
          rw [hacc] at hp2
          clear hacc
          go_wp2
          go_ret2
          rw [hp2.out]
          exact ⟨rfl, hbel.out⟩
    · have hp := powerN_odd hr (by rw [hlt]; exact hdig)
      have hp2 := Lib.hid hp
      have hne : ¬ ((digN (t).data.toList : Int) = ((t).size : Int)) := by omega
      clear hp hr hlt hdig hnil
      go_enter Tryz.func114, Tryz.ntmps114
      go_wp2_with (first | (go_at_call 113; refine (Tryz.strings_HasPrefix _ _ _).mono ?_; rintro e w' ⟨rfl, hw⟩; rw [hw]; clear hw; first | rw [hb] | rw [hc]) | (go_at_call 112; refine (digits_any _ _ hts).mono ?_; rintro e w1 ⟨rfl, hw⟩; rw [hw]; clear hw))
      go_ret2
      rw [hp2.out]
      exact ⟨rfl, Below.refl _ _⟩
theorem power_any (s : ByteArray) (w : World) (hs : s.size ≤ 9223372036854775806) :
    Calls Tryz.prog 114 #[.string s] w fun e w' => e = .returned (.tuple #[.int .i64 ((powerN s.data.toList).getD 0), .bool (powerN s.data.toList).isSome]) ∧ Below w.heap.size w w' := by
  cases hb : Lib.hasPrefix s.data.toList [45]
  · cases hc : Lib.hasPrefix s.data.toList [43]
    · exact power_plain s w hs hb hc
    · exact power_plus s w hs hb hc
  · exact power_minus s w hs hb
end Go.Proofs.YteplcnpmdjdlkaaGreatDoor
