/-
  The reference's power, walked. No condition beside a length that an int holds.
  The reference's parts, walked case by case. No condition beside those that name the case.
-/
import Derived.Test.YtnapebgkcjnnbaaGreatDoorJ1
import Derived.Test.YtnapebgkcjnnbaaGreatDoorJ6
namespace Go.Proofs.YtnapebgkcjnnbaaGreatDoor
open Go.RowKit
set_option linter.unusedVariables false
set_option linter.unusedSimpArgs false
set_option maxRecDepth 100000 in
set_option maxHeartbeats 1000000 in
theorem rpower_any (s : ByteArray) (w : World) (hs : s.size ≤ 9223372036854775807) (m : Bool) (hm : Lib.hasPrefix s.data.toList [45] = m) (hm2 : ∀ h : 0 < s.size, ((s[0]'h).toNat : Int) = 45 ↔ m = true) :
    Calls Tryz.prog 59 #[.string s] w fun e w' => e = .returned (.tuple #[.int .i64 ((rpowN s.data.toList).getD 0), .bool (rpowN s.data.toList).isSome]) ∧ w' = w := by
  have hm2' := Lib.hid hm2
  have hm3 : s.size = 0 → m = false := fun h => by
    rw [← hm]
    have : s.data.toList = [] := by rw [Lib.size_eq] at h; exact List.length_eq_zero_iff.1 h
    rw [this]; rfl
  have hm4 : s.size = 0 → s.toList.isEmpty = true := fun h => by
    have : s.data.toList = [] := by rw [Lib.size_eq] at h; exact List.length_eq_zero_iff.1 h
    rw [Lib.toList_data, this]; rfl
  have hm5 : 0 < s.size → s.toList.isEmpty = false := fun h => by
    rw [Lib.toList_data]
    rw [Lib.size_eq] at h
    cases hl : s.data.toList with
    | nil => rw [hl] at h; simp at h
    | cons c l => rfl
  have HM3 := Lib.hid (And.intro hm3 (And.intro hm4 hm5))
  clear hm3 hm4 hm5
  obtain ⟨X, hX⟩ : ∃ X, X = rpowN s.data.toList := ⟨_, rfl⟩
  rw [← hX]
  have hXr : X = (rAcc 0 s.data.toList).map fun v => if m = true then -(v : Int) else v := by rw [hX]; unfold rpowN; rw [hm]
  have HX := Lib.hid hXr
  clear hX hXr hm hm2
  go_enter Tryz.func59, Tryz.ntmps59
  go_wp2
  go_loop [4, 5] (fun v i => ∃ (k a : Nat), k ≤ s.size ∧ v = .int .i64 (a : Int) ∧ i = .int .i64 (k : Int) ∧ a ≤ 100000 ∧ rAcc 0 s.data.toList = rAcc a (s.data.toList.drop k)) (fun _ i => s.size - (intOf i).toNat)
  case atStart => exact ⟨0, 0, Nat.zero_le _, rfl, rfl, by omega, by simp⟩
  case round =>
    obtain ⟨k, a, hk, rfl, rfl, ha, hacc⟩ := hrel
    by_cases h0 : k < s.size
    · have hb : s.data.toList[k]? = some (s[k]'h0) := by
        rw [List.getElem?_eq_getElem (by rw [← Lib.size_eq]; exact h0)]; rfl
      have hD : isDig (s[k]'h0) = (decide (48 ≤ (s[k]'h0).toNat) && decide ((s[k]'h0).toNat ≤ 57)) := rfl
      cases hd : isDig (s[k]'h0)
      · have hst := rAcc_not hb hd a
        rw [hst] at hacc
        rw [hd] at hD
        have HD := Lib.hid hD
        have HA := Lib.hid hacc
        clear hD hd hb hst hacc
        go_wp2_with (go_at_call 79; refine (rdigit_any _ _).mono ?_; rintro e w1 ⟨rfl, hw⟩; rw [hw, ← HD.out]; clear hw)
        exact ⟨⟨k + 1, a, by omega, rfl, rfl, ha, HA.out⟩, by simp only [intOf]; omega⟩
      · have hst := rAcc_dig hb hd a
        rw [hst] at hacc
        have hr : 48 ≤ (s[k]'h0).toNat ∧ (s[k]'h0).toNat ≤ 57 := by
          rw [hd] at hD; simp at hD; exact hD
        rw [hd] at hD
        have HD := Lib.hid hD
        have k1 : (48 : Int) ≤ ((s[k]'h0).toNat : Int) := by omega
        have k2 : ((s[k]'h0).toNat : Int) ≤ 57 := by omega
        by_cases hbig : 100000 < a * 10 + ((s[k]'h0).toNat - 48)
        · rw [if_pos hbig] at hacc
          have hX : X = none := by rw [HX.out, hacc]; rfl
          have HXn := Lib.hid hX
          have hbig2 : (100000 : Int) < (a : Int) * 10 + (((s[k]'h0).toNat : Int) - 48) := by omega
          clear hD hd hb hst hacc hbig hX
          go_wp2_with (go_at_call 79; refine (rdigit_any _ _).mono ?_; rintro e w1 ⟨rfl, hw⟩; rw [hw, ← HD.out]; clear hw)
          go_ret2
          rw [HXn.out]
          exact ⟨rfl, rfl⟩
        · rw [if_neg hbig] at hacc
          have HA := Lib.hid hacc
          have hbig2 : (a : Int) * 10 + (((s[k]'h0).toNat : Int) - 48) ≤ 100000 := by omega
          clear hD hd hb hst hacc
          go_wp2_with (go_at_call 79; refine (rdigit_any _ _).mono ?_; rintro e w1 ⟨rfl, hw⟩; rw [hw, ← HD.out]; clear hw)
          exact ⟨⟨k + 1, a * 10 + ((s[k]'h0).toNat - 48), by omega, by rw [show ((a * 10 + ((s[k]'h0).toNat - 48) : Nat) : Int) = 10 * (a : Int) + (((s[k]'h0).toNat : Int) - 48) by omega], rfl, by omega, HA.out⟩, by simp only [intOf]; omega⟩
    · rw [rAcc_end a (by rw [← Lib.size_eq]; omega)] at hacc
      have hX : X = some (if m = true then -(a : Int) else a) := by rw [HX.out, hacc]; rfl
      have HXs := Lib.hid hX
      clear hX hacc
      by_cases hz : s.size = 0
      · have hm0 := HM3.out.1 hz
        have hie := HM3.out.2.1 hz
        subst hm0
        go_wp2
        go_ret2
        rw [HXs.out]
        exact ⟨rfl, rfl⟩
      · have hz0 : 0 < s.size := by omega
        have hmi := hm2'.out hz0
        have hie := HM3.out.2.2 hz0
        cases m
        · have hne : ¬ ((s[0]'hz0).toNat : Int) = 45 := fun h => by have := hmi.1 h; cases this
          clear hmi
          go_wp2
          go_ret2
          rw [HXs.out]
          exact ⟨rfl, rfl⟩
        · have heq : ((s[0]'hz0).toNat : Int) = 45 := hmi.2 rfl
          clear hmi
          go_wp2
          go_ret2
          rw [HXs.out]
          exact ⟨rfl, rfl⟩
end Go.Proofs.YtnapebgkcjnnbaaGreatDoor
namespace Go.Proofs.YtnapebgkcjnnbaaGreatDoor
open Go.RowKit
set_option linter.unusedVariables false
set_option linter.unusedSimpArgs false
/-- What parts hands back. -/
def partsV (x : Option (Bool × ByteArray × ByteArray × ByteArray)) : Value := .tuple #[.bool (x.getD (false, ⟨#[]⟩, ⟨#[]⟩, ⟨#[]⟩)).1, .string (x.getD (false, ⟨#[]⟩, ⟨#[]⟩, ⟨#[]⟩)).2.1, .string (x.getD (false, ⟨#[]⟩, ⟨#[]⟩, ⟨#[]⟩)).2.2.1, .string (x.getD (false, ⟨#[]⟩, ⟨#[]⟩, ⟨#[]⟩)).2.2.2, .bool x.isSome]
set_option maxRecDepth 100000 in
set_option maxHeartbeats 2000000 in
theorem rparts_nil (s : ByteArray) (w : World) (hs : s.size ≤ 9223372036854775807) (hes : s.toList = []) (hn : digN s.data.toList = 0) (Wh : ByteArray) (hWh : s.extract 0 0 = Wh) (heWh : Wh.toList = []) :
    Calls Tryz.prog 58 #[.string s] w fun e w' => e = .returned (partsV none) ∧ w' = w := by
  have hies : s.toList.isEmpty = true := by simp [hes]
  have hieWh : Wh.toList.isEmpty = true := by simp [heWh]
  have Hn := Lib.hid hn
  clear hn
  go_enter Tryz.func58, Tryz.ntmps58
  go_wp2_with (go_at_call 78; refine (rrun_any _ _ (by omega)).mono ?_; rintro e w1 ⟨rfl, hw⟩; rw [hw]; clear hw; rw [Hn.out])
  all_goals first | (refine bodyPost_ret (by simp [results, Tryz.results58, go_sem]; try rfl) rfl ?_; first | exact ⟨rfl, rfl⟩ | (subst hFr; exact ⟨rfl, rfl⟩)) | (exfalso; simp_all; done)
end Go.Proofs.YtnapebgkcjnnbaaGreatDoor
