/-
  dec.digits, walked: how many digits stand at a text's head. No condition beside a length that an int holds.
-/
import Derived.Test.YtnapebgkcjnnbaaGreatDoorDecStr
import Derived.Lib.Hide
import Derived.IntWalk
namespace Go.Proofs.YtnapebgkcjnnbaaGreatDoor
open Go.RowKit
set_option linter.unusedVariables false
set_option linter.unusedSimpArgs false
set_option maxHeartbeats 1000000 in
theorem digits_any (s : ByteArray) (w : World) (hs : s.size ≤ 9223372036854775806) :
    Calls Tryz.prog 47 #[.string s] w fun e w' => e = .returned (.int .i64 (digN s.data.toList : Nat)) ∧ w' = w := by
  go_enter Tryz.func47, Tryz.ntmps47
  go_wp2
  go_loop [3] (fun v => ∃ k : Nat, k ≤ s.size ∧ v = .int .i64 (k : Int) ∧ ∀ (j : Nat) b, j < k → s.data.toList[j]? = some b → isDig b = true) (fun v => s.size - (intOf v).toNat)
  case atStart => exact ⟨0, Nat.zero_le _, rfl, fun j b hj => absurd hj (Nat.not_lt_zero _)⟩
  case round =>
    obtain ⟨k, hk, rfl, hc⟩ := hrel
    have hkl : k ≤ s.data.toList.length := by rw [← Lib.size_eq]; exact hk
    have hend : (∀ b, s.data.toList[k]? = some b → isDig b = false) → digN s.data.toList = k := digN_is _ _ hkl hc
    have hHc := Lib.hid hc
    have hHe := Lib.hid hend
    clear hc hend
    by_cases h0 : k < s.size
    · have hb : s.data.toList[k]? = some (s[k]'h0) := by
        rw [List.getElem?_eq_getElem (by rw [← Lib.size_eq]; exact h0)]; rfl
      have hHb := Lib.hid hb
      clear hb
      by_cases h1 : 48 ≤ ((s[k]'h0).toNat : Int)
      · by_cases h2 : ((s[k]'h0).toNat : Int) ≤ 57
        · go_wp2
          refine ⟨⟨k + 1, by omega, rfl, fun j b hj hb => ?_⟩, by simp only [intOf]; omega⟩
          by_cases e : j = k
          · subst e
            rw [hHb.out] at hb
            rw [← Option.some.inj hb]
            have h1' : 48 ≤ (s[j]'h0).toNat := by omega
            have h2' : (s[j]'h0).toNat ≤ 57 := by omega
            simp [isDig, h1', h2']
          · exact hHc.out j b (by omega) hb
        · go_wp2
          go_ret
          refine ⟨?_, rfl⟩
          rw [hHe.out (fun b hb => by
            rw [hHb.out] at hb
            rw [← Option.some.inj hb]
            have h2' : ¬ (s[k]'h0).toNat ≤ 57 := by omega
            simp [isDig, h2'])]
          rfl
      · go_wp2
        go_ret
        refine ⟨?_, rfl⟩
        rw [hHe.out (fun b hb => by
          rw [hHb.out] at hb
          rw [← Option.some.inj hb]
          have h1' : ¬ 48 ≤ (s[k]'h0).toNat := by omega
          simp [isDig, h1'])]
        rfl
    · go_wp2
      go_ret
      refine ⟨?_, rfl⟩
      rw [hHe.out (fun b hb => by rw [List.getElem?_eq_none (by rw [← Lib.size_eq]; omega)] at hb; cases hb)]
      rfl
end Go.Proofs.YtnapebgkcjnnbaaGreatDoor
