/-
  The reference's digit, run, walked. No condition beside a length that an int holds.
-/
import Derived.Test.YtkdejdmmgjibmaaDoorDecStr
import Derived.Lib.Hide
import Derived.IntWalk
namespace Go.Proofs.YtkdejdmmgjibmaaDoor
open Go.RowKit
set_option linter.unusedVariables false
set_option linter.unusedSimpArgs false
set_option maxHeartbeats 1000000 in
theorem rdigit_any (c : Nat) (w : World) : Calls Tryd.prog 67 #[.int .u8 (c : Int)] w fun e w' => e = .returned (.bool (decide (48 ≤ c) && decide (c ≤ 57))) ∧ w' = w := by
  by_cases h1 : 48 ≤ c
  · by_cases h2 : c ≤ 57
    · have k1 : (48 : Int) ≤ (c : Int) := by omega
      have k2 : (c : Int) ≤ 57 := by omega
      go_enter Tryd.func67, Tryd.ntmps67
      go_wp2
      go_ret
      simp [h1, h2]
    · have k1 : (48 : Int) ≤ (c : Int) := by omega
      have k2 : ¬ (c : Int) ≤ 57 := by omega
      go_enter Tryd.func67, Tryd.ntmps67
      go_wp2
      go_ret
      simp [h1, h2]
  · have k1 : ¬ (48 : Int) ≤ (c : Int) := by omega
    go_enter Tryd.func67, Tryd.ntmps67
    go_wp2
    go_ret
    simp [h1]
set_option maxHeartbeats 1000000 in
theorem rrun_any (s : ByteArray) (w : World) (hs : s.size ≤ 9223372036854775806) :
    Calls Tryd.prog 47 #[.string s] w fun e w' => e = .returned (.int .i64 (digN s.data.toList : Nat)) ∧ w' = w := by
  go_enter Tryd.func47, Tryd.ntmps47
  go_wp2
  go_loop [3] (fun v => ∃ k : Nat, k ≤ s.size ∧ v = .int .i64 (k : Int) ∧ ∀ (j : Nat) b, j < k → s.data.toList[j]? = some b → isDig b = true) (fun v => s.size - (intOf v).toNat)
  case atStart => exact ⟨0, Nat.zero_le _, rfl, fun j b hj => absurd hj (Nat.not_lt_zero _)⟩
  case round =>
    obtain ⟨k, hk, rfl, hc⟩ := hrel
    have hkl : k ≤ s.data.toList.length := by rw [← Lib.size_eq]; exact hk
    have hend : (∀ b, s.data.toList[k]? = some b → isDig b = false) → digN s.data.toList = k := digN_is _ _ hkl hc
    have hHc := Lib.hid hc
    have hHe := Lib.hid hend
    clear hc hend
    by_cases h0 : k < s.size
    · have hb : s.data.toList[k]? = some (s[k]'h0) := by
        rw [List.getElem?_eq_getElem (by rw [← Lib.size_eq]; exact h0)]; rfl
      have hHb := Lib.hid hb
      clear hb
      have hD : isDig (s[k]'h0) = (decide (48 ≤ (s[k]'h0).toNat) && decide ((s[k]'h0).toNat ≤ 57)) := rfl
      cases hd : isDig (s[k]'h0)
      · rw [hd] at hD
        have HD := Lib.hid hD
        clear hD hd
        go_wp2_with (go_at_call 67; refine (rdigit_any _ _).mono ?_; rintro e w1 ⟨rfl, hw⟩; rw [hw, ← HD.out]; clear hw)
        go_ret
        refine ⟨?_, rfl⟩
        rw [hHe.out (fun b hb => by
          rw [hHb.out] at hb
          rw [← Option.some.inj hb]
          exact HD.out.symm)]
        rfl
      · have Hd := Lib.hid hd
        rw [hd] at hD
        have HD := Lib.hid hD
        clear hD hd
        go_wp2_with (go_at_call 67; refine (rdigit_any _ _).mono ?_; rintro e w1 ⟨rfl, hw⟩; rw [hw, ← HD.out]; clear hw)
        refine ⟨⟨k + 1, by omega, rfl, fun j b hj hb => ?_⟩, by simp only [intOf]; omega⟩
        by_cases e : j = k
        · subst e
          rw [hHb.out] at hb
          rw [← Option.some.inj hb]
          exact Hd.out
        · exact hHc.out j b (by omega) hb
    · go_wp2
      go_ret
      refine ⟨?_, rfl⟩
      rw [hHe.out (fun b hb => by rw [List.getElem?_eq_none (by rw [← Lib.size_eq]; omega)] at hb; cases hb)]
      rfl
end Go.Proofs.YtkdejdmmgjibmaaDoor
