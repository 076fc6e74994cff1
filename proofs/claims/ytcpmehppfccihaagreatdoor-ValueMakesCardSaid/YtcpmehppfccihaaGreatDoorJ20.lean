/-
  The reference's digit, run, walked. No condition beside a length that an int holds.
  The reference's power, walked. No condition beside a length that an int holds.
  The reference's parts, walked case by case. No condition beside those that name the case.
  The reference's parts, walked case by case. No condition beside those that name the case.
  The reference's parts, walked case by case. No condition beside those that name the case.
-/
import Derived.Test.YtcpmehppfccihaaGreatDoorJ1
import Derived.Lib.Hide
import Derived.IntWalk
import Derived.Test.YtcpmehppfccihaaGreatDoorJ10
namespace Go.Proofs.YtcpmehppfccihaaGreatDoor
open Go.RowKit
set_option linter.unusedVariables false
set_option linter.unusedSimpArgs false
set_option maxHeartbeats 1000000 in
theorem rdigit_any (c : Nat) (w : World) : Calls Tryz.prog 91 #[.int .u8 (c : Int)] w fun e w' => e = .returned (.bool (decide (48 ≤ c) && decide (c ≤ 57))) ∧ w' = w := by
  by_cases h1 : 48 ≤ c
  · by_cases h2 : c ≤ 57
    · have k1 : (48 : Int) ≤ (c : Int) := by omega
      have k2 : (c : Int) ≤ 57 := by omega
      go_enter Tryz.func91, Tryz.ntmps91
      go_wp2
      go_ret
      simp [h1, h2]
    · have k1 : (48 : Int) ≤ (c : Int) := by omega
      have k2 : ¬ (c : Int) ≤ 57 := by omega
      go_enter Tryz.func91, Tryz.ntmps91
      go_wp2
      go_ret
      simp [h1, h2]
  · have k1 : ¬ (48 : Int) ≤ (c : Int) := by omega
    go_enter Tryz.func91, Tryz.ntmps91
    go_wp2
    go_ret
    simp [h1]
set_option maxHeartbeats 1000000 in
theorem rrun_any (s : ByteArray) (w : World) (hs : s.size ≤ 9223372036854775807) :
    Calls Tryz.prog 71 #[.string s] w fun e w' => e = .returned (.int .i64 (digN s.data.toList : Nat)) ∧ w' = w := by
  go_enter Tryz.func71, Tryz.ntmps71
  go_wp2
  go_loop [3] (fun v => ∃ k : Nat, k ≤ s.size ∧ v = .int .i64 (k : Int) ∧ ∀ (j : Nat) b, j < k → s.data.toList[j]? = some b → isDig b = true) (fun v => s.size - (intOf v).toNat)
  case atStart => exact ⟨0, Nat.zero_le _, rfl, fun j b hj => absurd hj (Nat.not_lt_zero _)⟩
  case round =>
    obtain ⟨k, hk, rfl, hc⟩ := hrel
    have hkl : k ≤ s.data.toList.length := by rw [← Lib.size_eq]; exact hk
    have hend : (∀ b, s.data.toList[k]? = some b → isDig b = false) → digN s.data.toList = k := digN_is _ _ hkl hc
    have hHc := Lib.hid hc
    have hHe := Lib.hid hend
    clear hc hend
    by_cases h0 : k < s.size
    · have hb : s.data.toList[k]? = some (s[k]'h0) := by
        rw [List.getElem?_eq_getElem (by rw [← Lib.size_eq]; exact h0)]; rfl
      have hHb := Lib.hid hb
      clear hb
      have hD : isDig (s[k]'h0) = (decide (48 ≤ (s[k]'h0).toNat) && decide ((s[k]'h0).toNat ≤ 57)) := rfl
      cases hd : isDig (s[k]'h0)
      · rw [hd] at hD
        have HD := Lib.hid hD
        clear hD hd
        go_wp2_with (go_at_call 91; refine (rdigit_any _ _).mono ?_; rintro e w1 ⟨rfl, hw⟩; rw [hw, ← HD.out]; clear hw)
        go_ret
        refine ⟨?_, rfl⟩
        rw [hHe.out (fun b hb => by
          rw [hHb.out] at hb
          rw [← Option.some.inj hb]
          exact HD.out.symm)]
        rfl
      · have Hd := Lib.hid hd
        rw [hd] at hD
        have HD := Lib.hid hD
        clear hD hd
        go_wp2_with (go_at_call 91; refine (rdigit_any _ _).mono ?_; rintro e w1 ⟨rfl, hw⟩; rw [hw, ← HD.out]; clear hw)
        refine ⟨⟨k + 1, by omega, rfl, fun j b hj hb => ?_⟩, by simp only [intOf]; omega⟩
        by_cases e : j = k
        · subst e
          rw [hHb.out] at hb
          rw [← Option.some.inj hb]
          exact Hd.out
        · exact hHc.out j b (by omega) hb
    · go_wp2
      go_ret
      refine ⟨?_, rfl⟩
      rw [hHe.out (fun b hb => by rw [List.getElem?_eq_none (by rw [← Lib.size_eq]; omega)] at hb; cases hb)]
      rfl
end Go.Proofs.YtcpmehppfccihaaGreatDoor
namespace Go.Proofs.YtcpmehppfccihaaGreatDoor
open Go.RowKit
set_option linter.unusedVariables false
set_option linter.unusedSimpArgs false
set_option maxRecDepth 100000 in
set_option maxHeartbeats 1000000 in
theorem rpower_any (s : ByteArray) (w : World) (hs : s.size ≤ 9223372036854775807) (m : Bool) (hm : Lib.hasPrefix s.data.toList [45] = m) (hm2 : ∀ h : 0 < s.size, ((s[0]'h).toNat : Int) = 45 ↔ m = true) :
    Calls Tryz.prog 72 #[.string s] w fun e w' => e = .returned (.tuple #[.int .i64 ((rpowN s.data.toList).getD 0), .bool (rpowN s.data.toList).isSome]) ∧ w' = w := by
  have hm2' := Lib.hid hm2
  have hm3 : s.size = 0 → m = false := fun h => by
    rw [← hm]
    have : s.data.toList = [] := by rw [Lib.size_eq] at h; exact List.length_eq_zero_iff.1 h
    rw [this]; rfl
  have hm4 : s.size = 0 → s.toList.isEmpty = true := fun h => by
    have : s.data.toList = [] := by rw [Lib.size_eq] at h; exact List.length_eq_zero_iff.1 h
    rw [Lib.toList_data, this]; rfl
  have hm5 : 0 < s.size → s.toList.isEmpty = false := fun h => by
    rw [Lib.toList_data]
    rw [Lib.size_eq] at h
    cases hl : s.data.toList with
    | nil => rw [hl] at h; simp at h
    | cons c l => rfl
  have HM3 := Lib.hid (And.intro hm3 (And.intro hm4 hm5))
  clear hm3 hm4 hm5
  obtain ⟨X, hX⟩ : ∃ X, X = rpowN s.data.toList := ⟨_, rfl⟩
  rw [← hX]
  have hXr : X = (rAcc 0 s.data.toList).map fun v => if m = true then -(v : Int) else v := by rw [hX]; unfold rpowN; rw [hm]
  have HX := Lib.hid hXr
  clear hX hXr hm hm2
  go_enter Tryz.func72, Tryz.ntmps72
  go_wp2
  go_loop [4, 5] (fun v i => ∃ (k a : Nat), k ≤ s.size ∧ v = .int .i64 (a : Int) ∧ i = .int .i64 (k : Int) ∧ a ≤ 100000 ∧ rAcc 0 s.data.toList = rAcc a (s.data.toList.drop k)) (fun _ i => s.size - (intOf i).toNat)
  case atStart => exact ⟨0, 0, Nat.zero_le _, rfl, rfl, by omega, by simp⟩
  case round =>
    obtain ⟨k, a, hk, rfl, rfl, ha, hacc⟩ := hrel
    by_cases h0 : k < s.size
    · have hb : s.data.toList[k]? = some (s[k]'h0) := by
        rw [List.getElem?_eq_getElem (by rw [← Lib.size_eq]; exact h0)]; rfl
      have hD : isDig (s[k]'h0) = (decide (48 ≤ (s[k]'h0).toNat) && decide ((s[k]'h0).toNat ≤ 57)) := rfl
      cases hd : isDig (s[k]'h0)
      · have hst := rAcc_not hb hd a
        rw [hst] at hacc
        rw [hd] at hD
        have HD := Lib.hid hD
        have HA := Lib.hid hacc
        clear hD hd hb hst hacc
        go_wp2_with (go_at_call 91; refine (rdigit_any _ _).mono ?_; rintro e w1 ⟨rfl, hw⟩; rw [hw, ← HD.out]; clear hw)
        exact ⟨⟨k + 1, a, by omega, rfl, rfl, ha, HA.out⟩, by simp only [intOf]; omega⟩
      · have hst := rAcc_dig hb hd a
        rw [hst] at hacc
        have hr : 48 ≤ (s[k]'h0).toNat ∧ (s[k]'h0).toNat ≤ 57 := by
          rw [hd] at hD; simp at hD; exact hD
        rw [hd] at hD
        have HD := Lib.hid hD
        have k1 : (48 : Int) ≤ ((s[k]'h0).toNat : Int) := by omega
        have k2 : ((s[k]'h0).toNat : Int) ≤ 57 := by omega
        by_cases hbig : 100000 < a * 10 + ((s[k]'h0).toNat - 48)
        · rw [if_pos hbig] at hacc
          have hX : X = none := by rw [HX.out, hacc]; rfl
          have HXn := Lib.hid hX
          have hbig2 : (100000 : Int) < (a : Int) * 10 + (((s[k]'h0).toNat : Int) - 48) := by omega
          clear hD hd hb hst hacc hbig hX
          go_wp2_with (go_at_call 91; refine (rdigit_any _ _).mono ?_; rintro e w1 ⟨rfl, hw⟩; rw [hw, ← HD.out]; clear hw)
          go_ret2
          rw [HXn.out]
          exact ⟨rfl, rfl⟩
        · rw [if_neg hbig] at hacc
          have HA := Lib.hid hacc
          have hbig2 : (a : Int) * 10 + (((s[k]'h0).toNat : Int) - 48) ≤ 100000 := by omega
          clear hD hd hb hst hacc
          go_wp2_with (go_at_call 91; refine (rdigit_any _ _).mono ?_; rintro e w1 ⟨rfl, hw⟩; rw [hw, ← HD.out]; clear hw)
          exact ⟨⟨k + 1, a * 10 + ((s[k]'h0).toNat - 48), by omega, by rw [show ((a * 10 + ((s[k]'h0).toNat - 48) : Nat) : Int) = 10 * (a : Int) + (((s[k]'h0).toNat : Int) - 48) by omega], rfl, by omega, HA.out⟩, by simp only [intOf]; omega⟩
    · rw [rAcc_end a (by rw [← Lib.size_eq]; omega)] at hacc
      have hX : X = some (if m = true then -(a : Int) else a) := by rw [HX.out, hacc]; rfl
      have HXs := Lib.hid hX
      clear hX hacc
      by_cases hz : s.size = 0
      · have hm0 := HM3.out.1 hz
        have hie := HM3.out.2.1 hz
        subst hm0
        go_wp2
        go_ret2
        rw [HXs.out]
        exact ⟨rfl, rfl⟩
      · have hz0 : 0 < s.size := by omega
        have hmi := hm2'.out hz0
        have hie := HM3.out.2.2 hz0
        cases m
        · have hne : ¬ ((s[0]'hz0).toNat : Int) = 45 := fun h => by have := hmi.1 h; cases this
          clear hmi
          go_wp2
          go_ret2
          rw [HXs.out]
          exact ⟨rfl, rfl⟩
        · have heq : ((s[0]'hz0).toNat : Int) = 45 := hmi.2 rfl
          clear hmi
          go_wp2
          go_ret2
          rw [HXs.out]
          exact ⟨rfl, rfl⟩
end Go.Proofs.YtcpmehppfccihaaGreatDoor
namespace Go.Proofs.YtcpmehppfccihaaGreatDoor
open Go.RowKit
set_option linter.unusedVariables false
set_option linter.unusedSimpArgs false
/-- What parts hands back. -/
def partsV (x : Option (Bool × ByteArray × ByteArray × ByteArray)) : Value := .tuple #[.bool (x.getD (false, ⟨#[]⟩, ⟨#[]⟩, ⟨#[]⟩)).1, .string (x.getD (false, ⟨#[]⟩, ⟨#[]⟩, ⟨#[]⟩)).2.1, .string (x.getD (false, ⟨#[]⟩, ⟨#[]⟩, ⟨#[]⟩)).2.2.1, .string (x.getD (false, ⟨#[]⟩, ⟨#[]⟩, ⟨#[]⟩)).2.2.2, .bool x.isSome]
set_option maxRecDepth 100000 in
set_option maxHeartbeats 2000000 in
theorem rparts_nil (s : ByteArray) (w : World) (hs : s.size ≤ 9223372036854775807) (hes : s.toList = []) (hn : digN s.data.toList = 0) (Wh : ByteArray) (hWh : s.extract 0 0 = Wh) (heWh : Wh.toList = []) :
    Calls Tryz.prog 52 #[.string s] w fun e w' => e = .returned (partsV none) ∧ w' = w := by
  have hies : s.toList.isEmpty = true := by simp [hes]
  have hieWh : Wh.toList.isEmpty = true := by simp [heWh]
  have Hn := Lib.hid hn
  clear hn
  go_enter Tryz.func52, Tryz.ntmps52
  go_wp2_with (go_at_call 71; refine (rrun_any _ _ (by omega)).mono ?_; rintro e w1 ⟨rfl, hw⟩; rw [hw]; clear hw; rw [Hn.out])
  all_goals first | (refine bodyPost_ret (by simp [results, Tryz.results52, go_sem]; try rfl) rfl ?_; first | exact ⟨rfl, rfl⟩ | (subst hFr; exact ⟨rfl, rfl⟩)) | (exfalso; simp_all; done)
end Go.Proofs.YtcpmehppfccihaaGreatDoor
namespace Go.Proofs.YtcpmehppfccihaaGreatDoor
open Go.RowKit
set_option linter.unusedVariables false
set_option linter.unusedSimpArgs false
set_option linter.unusedSectionVars false
set_option maxRecDepth 100000
set_option maxHeartbeats 2000000
section
variable (s : ByteArray) (w : World) (hs : s.size ≤ 9223372036854775807) (hns : ¬ s.toList = []) (hz : 0 < s.size) (h45 : ((s[0]'hz).toNat : Int) = 45) (R : ByteArray) (hR : s.extract 1 s.size = R) (hRs : R.size ≤ 9223372036854775807) (n : Nat) (hn : digN R.data.toList = n) (hn1 : n ≤ R.size) (Wh R2 : ByteArray) (hWh : R.extract 0 n = Wh) (hR2 : R.extract n R.size = R2) (hWs : Wh.size ≤ 9223372036854775807) (hR2s : R2.size ≤ 9223372036854775807)
include s w hs hns hz h45 R hR hRs n hn hn1 Wh R2 hWh hR2 hWs hR2s
theorem rparts_zerom (heWh : Wh.toList = []) :
    Calls Tryz.prog 52 #[.string s] w fun e w' => e = .returned (partsV none) ∧ w' = w := by
  have hies : s.toList.isEmpty = false := by simp [hns]
  have hieWh : Wh.toList.isEmpty = true := by simp [heWh]
  have Hn := Lib.hid hn
  clear hn
  go_enter Tryz.func52, Tryz.ntmps52
  go_wp2_with (go_at_call 71; refine (rrun_any _ _ (by omega)).mono ?_; rintro e w1 ⟨rfl, hw⟩; rw [hw]; clear hw; first | rw [Hn.out])
  all_goals first | (refine bodyPost_ret (by simp [results, Tryz.results52, go_sem]; try rfl) rfl ?_; first | exact ⟨rfl, rfl⟩ | (subst hFr; exact ⟨rfl, rfl⟩)) | (exfalso; simp_all; done) | (exfalso; omega)
theorem rparts_leadm (hnWh : ¬ Wh.toList = []) (h1 : 1 < (Wh.size : Int)) (hzW : 0 < Wh.size) (h48 : ((Wh[0]'hzW).toNat : Int) = 48) :
    Calls Tryz.prog 52 #[.string s] w fun e w' => e = .returned (partsV none) ∧ w' = w := by
  have hies : s.toList.isEmpty = false := by simp [hns]
  have hieWh : Wh.toList.isEmpty = false := by simp [hnWh]
  have Hn := Lib.hid hn
  clear hn
  go_enter Tryz.func52, Tryz.ntmps52
  go_wp2_with (go_at_call 71; refine (rrun_any _ _ (by omega)).mono ?_; rintro e w1 ⟨rfl, hw⟩; rw [hw]; clear hw; first | rw [Hn.out])
  all_goals first | (refine bodyPost_ret (by simp [results, Tryz.results52, go_sem]; try rfl) rfl ?_; first | exact ⟨rfl, rfl⟩ | (subst hFr; exact ⟨rfl, rfl⟩)) | (exfalso; simp_all; done) | (exfalso; omega)
theorem rparts_zm1 (hnWh : ¬ Wh.toList = []) (h1 : (Wh.size : Int) ≤ 1) (heR2 : R2.toList = []) :
    Calls Tryz.prog 52 #[.string s] w fun e w' => e = .returned (partsV (some (true, Wh, ⟨#[]⟩, ⟨#[]⟩))) ∧ w' = w := by
  have hies : s.toList.isEmpty = false := by simp [hns]
  have hieWh : Wh.toList.isEmpty = false := by simp [hnWh]
  have Hn := Lib.hid hn
  clear hn
  have hieR2 : R2.toList.isEmpty = true := by simp [heR2]
  go_enter Tryz.func52, Tryz.ntmps52
  go_wp2_with (go_at_call 71; refine (rrun_any _ _ (by omega)).mono ?_; rintro e w1 ⟨rfl, hw⟩; rw [hw]; clear hw; first | rw [Hn.out])
  all_goals first | (refine bodyPost_ret (by simp [results, Tryz.results52, go_sem]; try rfl) rfl ?_; first | exact ⟨rfl, rfl⟩ | (subst hFr; exact ⟨rfl, rfl⟩)) | (exfalso; simp_all; done) | (exfalso; omega)
theorem rparts_fm1 (hnWh : ¬ Wh.toList = []) (h1 : (Wh.size : Int) ≤ 1) (hnR2 : ¬ R2.toList = []) (hz2 : 0 < R2.size) (h46 : ((R2[0]'hz2).toNat : Int) = 46) (R3 : ByteArray) (hR3 : R2.extract 1 R2.size = R3) (hR3s : R3.size ≤ 9223372036854775807) (k : Nat) (hk : digN R3.data.toList = k) (hk1 : k + 1 ≤ R2.size) (Fr E : ByteArray) (hFr : R2.extract 1 (1 + k) = Fr) (hE : R2.extract (1 + k) R2.size = E) (hFs : Fr.size ≤ 9223372036854775807) (hEs : E.size ≤ 9223372036854775807) (heFr : Fr.toList = []) :
    Calls Tryz.prog 52 #[.string s] w fun e w' => e = .returned (partsV none) ∧ w' = w := by
  have hies : s.toList.isEmpty = false := by simp [hns]
  have hieWh : Wh.toList.isEmpty = false := by simp [hnWh]
  have Hn := Lib.hid hn
  clear hn
  have hieR2 : R2.toList.isEmpty = false := by simp [hnR2]
  have hq1 : (1 : Int) ≤ 1 + (k : Int) := by omega
  have hq2 : (1 : Int) + (k : Int) ≤ (R2.size : Int) := by omega
  have Hk := Lib.hid hk
  clear hk
  have hieFr : Fr.toList.isEmpty = true := by simp [heFr]
  go_enter Tryz.func52, Tryz.ntmps52
  go_wp2_with (go_at_call 71; refine (rrun_any _ _ (by omega)).mono ?_; rintro e w1 ⟨rfl, hw⟩; rw [hw]; clear hw; first | rw [Hn.out] | rw [Hk.out])
  all_goals first | (refine bodyPost_ret (by simp [results, Tryz.results52, go_sem]; try rfl) rfl ?_; first | exact ⟨rfl, rfl⟩ | (subst hFr; exact ⟨rfl, rfl⟩)) | (exfalso; simp_all; done) | (exfalso; omega)
theorem rparts_dem1 (hnWh : ¬ Wh.toList = []) (h1 : (Wh.size : Int) ≤ 1) (hnR2 : ¬ R2.toList = []) (hz2 : 0 < R2.size) (h46 : ((R2[0]'hz2).toNat : Int) = 46) (R3 : ByteArray) (hR3 : R2.extract 1 R2.size = R3) (hR3s : R3.size ≤ 9223372036854775807) (k : Nat) (hk : digN R3.data.toList = k) (hk1 : k + 1 ≤ R2.size) (Fr E : ByteArray) (hFr : R2.extract 1 (1 + k) = Fr) (hE : R2.extract (1 + k) R2.size = E) (hFs : Fr.size ≤ 9223372036854775807) (hEs : E.size ≤ 9223372036854775807) (hnFr : ¬ Fr.toList = []) (heE : E.toList = []) :
    Calls Tryz.prog 52 #[.string s] w fun e w' => e = .returned (partsV (some (true, Wh, Fr, ⟨#[]⟩))) ∧ w' = w := by
  have hies : s.toList.isEmpty = false := by simp [hns]
  have hieWh : Wh.toList.isEmpty = false := by simp [hnWh]
  have Hn := Lib.hid hn
  clear hn
  have hieR2 : R2.toList.isEmpty = false := by simp [hnR2]
  have hq1 : (1 : Int) ≤ 1 + (k : Int) := by omega
  have hq2 : (1 : Int) + (k : Int) ≤ (R2.size : Int) := by omega
  have Hk := Lib.hid hk
  clear hk
  have hieFr : Fr.toList.isEmpty = false := by simp [hnFr]
  have hieE : E.toList.isEmpty = true := by simp [heE]
  go_enter Tryz.func52, Tryz.ntmps52
  go_wp2_with (go_at_call 71; refine (rrun_any _ _ (by omega)).mono ?_; rintro e w1 ⟨rfl, hw⟩; rw [hw]; clear hw; first | rw [Hn.out] | rw [Hk.out])
  all_goals first | (refine bodyPost_ret (by simp [results, Tryz.results52, go_sem]; try rfl) rfl ?_; first | exact ⟨rfl, rfl⟩ | (subst hFr; exact ⟨rfl, rfl⟩)) | (exfalso; simp_all; done) | (exfalso; omega)
theorem rparts_zm2 (hnWh : ¬ Wh.toList = []) (h1 : 1 < (Wh.size : Int)) (hzW : 0 < Wh.size) (h48 : ¬ ((Wh[0]'hzW).toNat : Int) = 48) (heR2 : R2.toList = []) :
    Calls Tryz.prog 52 #[.string s] w fun e w' => e = .returned (partsV (some (true, Wh, ⟨#[]⟩, ⟨#[]⟩))) ∧ w' = w := by
  have hies : s.toList.isEmpty = false := by simp [hns]
  have hieWh : Wh.toList.isEmpty = false := by simp [hnWh]
  have Hn := Lib.hid hn
  clear hn
  have hieR2 : R2.toList.isEmpty = true := by simp [heR2]
  go_enter Tryz.func52, Tryz.ntmps52
  go_wp2_with (go_at_call 71; refine (rrun_any _ _ (by omega)).mono ?_; rintro e w1 ⟨rfl, hw⟩; rw [hw]; clear hw; first | rw [Hn.out])
  all_goals first | (refine bodyPost_ret (by simp [results, Tryz.results52, go_sem]; try rfl) rfl ?_; first | exact ⟨rfl, rfl⟩ | (subst hFr; exact ⟨rfl, rfl⟩)) | (exfalso; simp_all; done) | (exfalso; omega)
theorem rparts_fm2 (hnWh : ¬ Wh.toList = []) (h1 : 1 < (Wh.size : Int)) (hzW : 0 < Wh.size) (h48 : ¬ ((Wh[0]'hzW).toNat : Int) = 48) (hnR2 : ¬ R2.toList = []) (hz2 : 0 < R2.size) (h46 : ((R2[0]'hz2).toNat : Int) = 46) (R3 : ByteArray) (hR3 : R2.extract 1 R2.size = R3) (hR3s : R3.size ≤ 9223372036854775807) (k : Nat) (hk : digN R3.data.toList = k) (hk1 : k + 1 ≤ R2.size) (Fr E : ByteArray) (hFr : R2.extract 1 (1 + k) = Fr) (hE : R2.extract (1 + k) R2.size = E) (hFs : Fr.size ≤ 9223372036854775807) (hEs : E.size ≤ 9223372036854775807) (heFr : Fr.toList = []) :
    Calls Tryz.prog 52 #[.string s] w fun e w' => e = .returned (partsV none) ∧ w' = w := by
  have hies : s.toList.isEmpty = false := by simp [hns]
  have hieWh : Wh.toList.isEmpty = false := by simp [hnWh]
  have Hn := Lib.hid hn
  clear hn
  have hieR2 : R2.toList.isEmpty = false := by simp [hnR2]
  have hq1 : (1 : Int) ≤ 1 + (k : Int) := by omega
  have hq2 : (1 : Int) + (k : Int) ≤ (R2.size : Int) := by omega
  have Hk := Lib.hid hk
  clear hk
  have hieFr : Fr.toList.isEmpty = true := by simp [heFr]
  go_enter Tryz.func52, Tryz.ntmps52
  go_wp2_with (go_at_call 71; refine (rrun_any _ _ (by omega)).mono ?_; rintro e w1 ⟨rfl, hw⟩; rw [hw]; clear hw; first | rw [Hn.out] | rw [Hk.out])
  all_goals first | (refine bodyPost_ret (by simp [results, Tryz.results52, go_sem]; try rfl) rfl ?_; first | exact ⟨rfl, rfl⟩ | (subst hFr; exact ⟨rfl, rfl⟩)) | (exfalso; simp_all; done) | (exfalso; omega)
theorem rparts_dem2 (hnWh : ¬ Wh.toList = []) (h1 : 1 < (Wh.size : Int)) (hzW : 0 < Wh.size) (h48 : ¬ ((Wh[0]'hzW).toNat : Int) = 48) (hnR2 : ¬ R2.toList = []) (hz2 : 0 < R2.size) (h46 : ((R2[0]'hz2).toNat : Int) = 46) (R3 : ByteArray) (hR3 : R2.extract 1 R2.size = R3) (hR3s : R3.size ≤ 9223372036854775807) (k : Nat) (hk : digN R3.data.toList = k) (hk1 : k + 1 ≤ R2.size) (Fr E : ByteArray) (hFr : R2.extract 1 (1 + k) = Fr) (hE : R2.extract (1 + k) R2.size = E) (hFs : Fr.size ≤ 9223372036854775807) (hEs : E.size ≤ 9223372036854775807) (hnFr : ¬ Fr.toList = []) (heE : E.toList = []) :
    Calls Tryz.prog 52 #[.string s] w fun e w' => e = .returned (partsV (some (true, Wh, Fr, ⟨#[]⟩))) ∧ w' = w := by
  have hies : s.toList.isEmpty = false := by simp [hns]
  have hieWh : Wh.toList.isEmpty = false := by simp [hnWh]
  have Hn := Lib.hid hn
  clear hn
  have hieR2 : R2.toList.isEmpty = false := by simp [hnR2]
  have hq1 : (1 : Int) ≤ 1 + (k : Int) := by omega
  have hq2 : (1 : Int) + (k : Int) ≤ (R2.size : Int) := by omega
  have Hk := Lib.hid hk
  clear hk
  have hieFr : Fr.toList.isEmpty = false := by simp [hnFr]
  have hieE : E.toList.isEmpty = true := by simp [heE]
  go_enter Tryz.func52, Tryz.ntmps52
  go_wp2_with (go_at_call 71; refine (rrun_any _ _ (by omega)).mono ?_; rintro e w1 ⟨rfl, hw⟩; rw [hw]; clear hw; first | rw [Hn.out] | rw [Hk.out])
  all_goals first | (refine bodyPost_ret (by simp [results, Tryz.results52, go_sem]; try rfl) rfl ?_; first | exact ⟨rfl, rfl⟩ | (subst hFr; exact ⟨rfl, rfl⟩)) | (exfalso; simp_all; done) | (exfalso; omega)
end
end Go.Proofs.YtcpmehppfccihaaGreatDoor
namespace Go.Proofs.YtcpmehppfccihaaGreatDoor
open Go.RowKit
set_option linter.unusedVariables false
set_option linter.unusedSimpArgs false
set_option linter.unusedSectionVars false
set_option maxRecDepth 100000
set_option maxHeartbeats 2000000
section
variable (s : ByteArray) (w : World) (hs : s.size ≤ 9223372036854775807) (hns : ¬ s.toList = []) (hz : 0 < s.size) (h45 : ¬ ((s[0]'hz).toNat : Int) = 45) (R : ByteArray) (hR : R = s) (hRs : R.size ≤ 9223372036854775807) (n : Nat) (hn : digN R.data.toList = n) (hn1 : n ≤ R.size) (Wh R2 : ByteArray) (hWh : R.extract 0 n = Wh) (hR2 : R.extract n R.size = R2) (hWs : Wh.size ≤ 9223372036854775807) (hR2s : R2.size ≤ 9223372036854775807)
include s w hs hns hz h45 R hR hRs n hn hn1 Wh R2 hWh hR2 hWs hR2s
theorem rparts_zerop (heWh : Wh.toList = []) :
    Calls Tryz.prog 52 #[.string s] w fun e w' => e = .returned (partsV none) ∧ w' = w := by
  subst hR
  have hieR : R.toList.isEmpty = false := by simp [hns]
  have hieWh : Wh.toList.isEmpty = true := by simp [heWh]
  have Hn := Lib.hid hn
  clear hn
  go_enter Tryz.func52, Tryz.ntmps52
  go_wp2_with (go_at_call 71; refine (rrun_any _ _ (by omega)).mono ?_; rintro e w1 ⟨rfl, hw⟩; rw [hw]; clear hw; first | rw [Hn.out])
  all_goals first | (refine bodyPost_ret (by simp [results, Tryz.results52, go_sem]; try rfl) rfl ?_; first | exact ⟨rfl, rfl⟩ | (subst hFr; exact ⟨rfl, rfl⟩)) | (exfalso; simp_all; done) | (exfalso; omega)
theorem rparts_leadp (hnWh : ¬ Wh.toList = []) (h1 : 1 < (Wh.size : Int)) (hzW : 0 < Wh.size) (h48 : ((Wh[0]'hzW).toNat : Int) = 48) :
    Calls Tryz.prog 52 #[.string s] w fun e w' => e = .returned (partsV none) ∧ w' = w := by
  subst hR
  have hieR : R.toList.isEmpty = false := by simp [hns]
  have hieWh : Wh.toList.isEmpty = false := by simp [hnWh]
  have Hn := Lib.hid hn
  clear hn
  go_enter Tryz.func52, Tryz.ntmps52
  go_wp2_with (go_at_call 71; refine (rrun_any _ _ (by omega)).mono ?_; rintro e w1 ⟨rfl, hw⟩; rw [hw]; clear hw; first | rw [Hn.out])
  all_goals first | (refine bodyPost_ret (by simp [results, Tryz.results52, go_sem]; try rfl) rfl ?_; first | exact ⟨rfl, rfl⟩ | (subst hFr; exact ⟨rfl, rfl⟩)) | (exfalso; simp_all; done) | (exfalso; omega)
theorem rparts_zp1 (hnWh : ¬ Wh.toList = []) (h1 : (Wh.size : Int) ≤ 1) (heR2 : R2.toList = []) :
    Calls Tryz.prog 52 #[.string s] w fun e w' => e = .returned (partsV (some (false, Wh, ⟨#[]⟩, ⟨#[]⟩))) ∧ w' = w := by
  subst hR
  have hieR : R.toList.isEmpty = false := by simp [hns]
  have hieWh : Wh.toList.isEmpty = false := by simp [hnWh]
  have Hn := Lib.hid hn
  clear hn
  have hieR2 : R2.toList.isEmpty = true := by simp [heR2]
  go_enter Tryz.func52, Tryz.ntmps52
  go_wp2_with (go_at_call 71; refine (rrun_any _ _ (by omega)).mono ?_; rintro e w1 ⟨rfl, hw⟩; rw [hw]; clear hw; first | rw [Hn.out])
  all_goals first | (refine bodyPost_ret (by simp [results, Tryz.results52, go_sem]; try rfl) rfl ?_; first | exact ⟨rfl, rfl⟩ | (subst hFr; exact ⟨rfl, rfl⟩)) | (exfalso; simp_all; done) | (exfalso; omega)
theorem rparts_fp1 (hnWh : ¬ Wh.toList = []) (h1 : (Wh.size : Int) ≤ 1) (hnR2 : ¬ R2.toList = []) (hz2 : 0 < R2.size) (h46 : ((R2[0]'hz2).toNat : Int) = 46) (R3 : ByteArray) (hR3 : R2.extract 1 R2.size = R3) (hR3s : R3.size ≤ 9223372036854775807) (k : Nat) (hk : digN R3.data.toList = k) (hk1 : k + 1 ≤ R2.size) (Fr E : ByteArray) (hFr : R2.extract 1 (1 + k) = Fr) (hE : R2.extract (1 + k) R2.size = E) (hFs : Fr.size ≤ 9223372036854775807) (hEs : E.size ≤ 9223372036854775807) (heFr : Fr.toList = []) :
    Calls Tryz.prog 52 #[.string s] w fun e w' => e = .returned (partsV none) ∧ w' = w := by
  subst hR
  have hieR : R.toList.isEmpty = false := by simp [hns]
  have hieWh : Wh.toList.isEmpty = false := by simp [hnWh]
  have Hn := Lib.hid hn
  clear hn
  have hieR2 : R2.toList.isEmpty = false := by simp [hnR2]
  have hq1 : (1 : Int) ≤ 1 + (k : Int) := by omega
  have hq2 : (1 : Int) + (k : Int) ≤ (R2.size : Int) := by omega
  have Hk := Lib.hid hk
  clear hk
  have hieFr : Fr.toList.isEmpty = true := by simp [heFr]
  go_enter Tryz.func52, Tryz.ntmps52
  go_wp2_with (go_at_call 71; refine (rrun_any _ _ (by omega)).mono ?_; rintro e w1 ⟨rfl, hw⟩; rw [hw]; clear hw; first | rw [Hn.out] | rw [Hk.out])
  all_goals first | (refine bodyPost_ret (by simp [results, Tryz.results52, go_sem]; try rfl) rfl ?_; first | exact ⟨rfl, rfl⟩ | (subst hFr; exact ⟨rfl, rfl⟩)) | (exfalso; simp_all; done) | (exfalso; omega)
theorem rparts_dep1 (hnWh : ¬ Wh.toList = []) (h1 : (Wh.size : Int) ≤ 1) (hnR2 : ¬ R2.toList = []) (hz2 : 0 < R2.size) (h46 : ((R2[0]'hz2).toNat : Int) = 46) (R3 : ByteArray) (hR3 : R2.extract 1 R2.size = R3) (hR3s : R3.size ≤ 9223372036854775807) (k : Nat) (hk : digN R3.data.toList = k) (hk1 : k + 1 ≤ R2.size) (Fr E : ByteArray) (hFr : R2.extract 1 (1 + k) = Fr) (hE : R2.extract (1 + k) R2.size = E) (hFs : Fr.size ≤ 9223372036854775807) (hEs : E.size ≤ 9223372036854775807) (hnFr : ¬ Fr.toList = []) (heE : E.toList = []) :
    Calls Tryz.prog 52 #[.string s] w fun e w' => e = .returned (partsV (some (false, Wh, Fr, ⟨#[]⟩))) ∧ w' = w := by
  subst hR
  have hieR : R.toList.isEmpty = false := by simp [hns]
  have hieWh : Wh.toList.isEmpty = false := by simp [hnWh]
  have Hn := Lib.hid hn
  clear hn
  have hieR2 : R2.toList.isEmpty = false := by simp [hnR2]
  have hq1 : (1 : Int) ≤ 1 + (k : Int) := by omega
  have hq2 : (1 : Int) + (k : Int) ≤ (R2.size : Int) := by omega
  have Hk := Lib.hid hk
  clear hk
  have hieFr : Fr.toList.isEmpty = false := by simp [hnFr]
  have hieE : E.toList.isEmpty = true := by simp [heE]
  go_enter Tryz.func52, Tryz.ntmps52
  go_wp2_with (go_at_call 71; refine (rrun_any _ _ (by omega)).mono ?_; rintro e w1 ⟨rfl, hw⟩; rw [hw]; clear hw; first | rw [Hn.out] | rw [Hk.out])
  all_goals first | (refine bodyPost_ret (by simp [results, Tryz.results52, go_sem]; try rfl) rfl ?_; first | exact ⟨rfl, rfl⟩ | (subst hFr; exact ⟨rfl, rfl⟩)) | (exfalso; simp_all; done) | (exfalso; omega)
theorem rparts_zp2 (hnWh : ¬ Wh.toList = []) (h1 : 1 < (Wh.size : Int)) (hzW : 0 < Wh.size) (h48 : ¬ ((Wh[0]'hzW).toNat : Int) = 48) (heR2 : R2.toList = []) :
    Calls Tryz.prog 52 #[.string s] w fun e w' => e = .returned (partsV (some (false, Wh, ⟨#[]⟩, ⟨#[]⟩))) ∧ w' = w := by
  subst hR
  have hieR : R.toList.isEmpty = false := by simp [hns]
  have hieWh : Wh.toList.isEmpty = false := by simp [hnWh]
  have Hn := Lib.hid hn
  clear hn
  have hieR2 : R2.toList.isEmpty = true := by simp [heR2]
  go_enter Tryz.func52, Tryz.ntmps52
  go_wp2_with (go_at_call 71; refine (rrun_any _ _ (by omega)).mono ?_; rintro e w1 ⟨rfl, hw⟩; rw [hw]; clear hw; first | rw [Hn.out])
  all_goals first | (refine bodyPost_ret (by simp [results, Tryz.results52, go_sem]; try rfl) rfl ?_; first | exact ⟨rfl, rfl⟩ | (subst hFr; exact ⟨rfl, rfl⟩)) | (exfalso; simp_all; done) | (exfalso; omega)
theorem rparts_fp2 (hnWh : ¬ Wh.toList = []) (h1 : 1 < (Wh.size : Int)) (hzW : 0 < Wh.size) (h48 : ¬ ((Wh[0]'hzW).toNat : Int) = 48) (hnR2 : ¬ R2.toList = []) (hz2 : 0 < R2.size) (h46 : ((R2[0]'hz2).toNat : Int) = 46) (R3 : ByteArray) (hR3 : R2.extract 1 R2.size = R3) (hR3s : R3.size ≤ 9223372036854775807) (k : Nat) (hk : digN R3.data.toList = k) (hk1 : k + 1 ≤ R2.size) (Fr E : ByteArray) (hFr : R2.extract 1 (1 + k) = Fr) (hE : R2.extract (1 + k) R2.size = E) (hFs : Fr.size ≤ 9223372036854775807) (hEs : E.size ≤ 9223372036854775807) (heFr : Fr.toList = []) :
    Calls Tryz.prog 52 #[.string s] w fun e w' => e = .returned (partsV none) ∧ w' = w := by
  subst hR
  have hieR : R.toList.isEmpty = false := by simp [hns]
  have hieWh : Wh.toList.isEmpty = false := by simp [hnWh]
  have Hn := Lib.hid hn
  clear hn
  have hieR2 : R2.toList.isEmpty = false := by simp [hnR2]
  have hq1 : (1 : Int) ≤ 1 + (k : Int) := by omega
  have hq2 : (1 : Int) + (k : Int) ≤ (R2.size : Int) := by omega
  have Hk := Lib.hid hk
  clear hk
  have hieFr : Fr.toList.isEmpty = true := by simp [heFr]
  go_enter Tryz.func52, Tryz.ntmps52
  go_wp2_with (go_at_call 71; refine (rrun_any _ _ (by omega)).mono ?_; rintro e w1 ⟨rfl, hw⟩; rw [hw]; clear hw; first | rw [Hn.out] | rw [Hk.out])
  all_goals first | (refine bodyPost_ret (by simp [results, Tryz.results52, go_sem]; try rfl) rfl ?_; first | exact ⟨rfl, rfl⟩ | (subst hFr; exact ⟨rfl, rfl⟩)) | (exfalso; simp_all; done) | (exfalso; omega)
theorem rparts_dep2 (hnWh : ¬ Wh.toList = []) (h1 : 1 < (Wh.size : Int)) (hzW : 0 < Wh.size) (h48 : ¬ ((Wh[0]'hzW).toNat : Int) = 48) (hnR2 : ¬ R2.toList = []) (hz2 : 0 < R2.size) (h46 : ((R2[0]'hz2).toNat : Int) = 46) (R3 : ByteArray) (hR3 : R2.extract 1 R2.size = R3) (hR3s : R3.size ≤ 9223372036854775807) (k : Nat) (hk : digN R3.data.toList = k) (hk1 : k + 1 ≤ R2.size) (Fr E : ByteArray) (hFr : R2.extract 1 (1 + k) = Fr) (hE : R2.extract (1 + k) R2.size = E) (hFs : Fr.size ≤ 9223372036854775807) (hEs : E.size ≤ 9223372036854775807) (hnFr : ¬ Fr.toList = []) (heE : E.toList = []) :
    Calls Tryz.prog 52 #[.string s] w fun e w' => e = .returned (partsV (some (false, Wh, Fr, ⟨#[]⟩))) ∧ w' = w := by
  subst hR
  have hieR : R.toList.isEmpty = false := by simp [hns]
  have hieWh : Wh.toList.isEmpty = false := by simp [hnWh]
  have Hn := Lib.hid hn
  clear hn
  have hieR2 : R2.toList.isEmpty = false := by simp [hnR2]
  have hq1 : (1 : Int) ≤ 1 + (k : Int) := by omega
  have hq2 : (1 : Int) + (k : Int) ≤ (R2.size : Int) := by omega
  have Hk := Lib.hid hk
  clear hk
  have hieFr : Fr.toList.isEmpty = false := by simp [hnFr]
  have hieE : E.toList.isEmpty = true := by simp [heE]
  go_enter Tryz.func52, Tryz.ntmps52
  go_wp2_with (go_at_call 71; refine (rrun_any _ _ (by omega)).mono ?_; rintro e w1 ⟨rfl, hw⟩; rw [hw]; clear hw; first | rw [Hn.out] | rw [Hk.out])
  all_goals first | (refine bodyPost_ret (by simp [results, Tryz.results52, go_sem]; try rfl) rfl ?_; first | exact ⟨rfl, rfl⟩ | (subst hFr; exact ⟨rfl, rfl⟩)) | (exfalso; simp_all; done) | (exfalso; omega)
end
end Go.Proofs.YtcpmehppfccihaaGreatDoor
