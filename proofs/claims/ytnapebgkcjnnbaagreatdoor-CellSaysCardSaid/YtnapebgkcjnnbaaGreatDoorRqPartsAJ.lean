/-
  The reference's parts, walked case by case. No condition beside those that name the case.
-/
import Derived.Test.YtnapebgkcjnnbaaGreatDoorJ12
namespace Go.Proofs.YtnapebgkcjnnbaaGreatDoor
open Go.RowKit
set_option linter.unusedVariables false
set_option linter.unusedSimpArgs false
set_option linter.unusedSectionVars false
set_option maxRecDepth 100000
set_option maxHeartbeats 2000000
section
variable (s : ByteArray) (w : World) (hs : s.size ≤ 9223372036854775807) (hns : ¬ s.toList = []) (hz : 0 < s.size) (h45 : ((s[0]'hz).toNat : Int) = 45) (R : ByteArray) (hR : s.extract 1 s.size = R) (hRs : R.size ≤ 9223372036854775807) (n : Nat) (hn : digN R.data.toList = n) (hn1 : n ≤ R.size) (Wh R2 : ByteArray) (hWh : R.extract 0 n = Wh) (hR2 : R.extract n R.size = R2) (hWs : Wh.size ≤ 9223372036854775807) (hR2s : R2.size ≤ 9223372036854775807)
include s w hs hns hz h45 R hR hRs n hn hn1 Wh R2 hWh hR2 hWs hR2s
theorem rparts_zerom (heWh : Wh.toList = []) :
    Calls Tryz.prog 58 #[.string s] w fun e w' => e = .returned (partsV none) ∧ w' = w := by
  have hies : s.toList.isEmpty = false := by simp [hns]
  have hieWh : Wh.toList.isEmpty = true := by simp [heWh]
  have Hn := Lib.hid hn
  clear hn
  go_enter Tryz.func58, Tryz.ntmps58
  go_wp2_with (go_at_call 78; refine (rrun_any _ _ (by omega)).mono ?_; rintro e w1 ⟨rfl, hw⟩; rw [hw]; clear hw; first | rw [Hn.out])
  all_goals first | (refine bodyPost_ret (by simp [results, Tryz.results58, go_sem]; try rfl) rfl ?_; first | exact ⟨rfl, rfl⟩ | (subst hFr; exact ⟨rfl, rfl⟩)) | (exfalso; simp_all; done) | (exfalso; omega)
theorem rparts_leadm (hnWh : ¬ Wh.toList = []) (h1 : 1 < (Wh.size : Int)) (hzW : 0 < Wh.size) (h48 : ((Wh[0]'hzW).toNat : Int) = 48) :
    Calls Tryz.prog 58 #[.string s] w fun e w' => e = .returned (partsV none) ∧ w' = w := by
  have hies : s.toList.isEmpty = false := by simp [hns]
  have hieWh : Wh.toList.isEmpty = false := by simp [hnWh]
  have Hn := Lib.hid hn
  clear hn
  go_enter Tryz.func58, Tryz.ntmps58
  go_wp2_with (go_at_call 78; refine (rrun_any _ _ (by omega)).mono ?_; rintro e w1 ⟨rfl, hw⟩; rw [hw]; clear hw; first | rw [Hn.out])
  all_goals first | (refine bodyPost_ret (by simp [results, Tryz.results58, go_sem]; try rfl) rfl ?_; first | exact ⟨rfl, rfl⟩ | (subst hFr; exact ⟨rfl, rfl⟩)) | (exfalso; simp_all; done) | (exfalso; omega)
theorem rparts_zm1 (hnWh : ¬ Wh.toList = []) (h1 : (Wh.size : Int) ≤ 1) (heR2 : R2.toList = []) :
    Calls Tryz.prog 58 #[.string s] w fun e w' => e = .returned (partsV (some (true, Wh, ⟨#[]⟩, ⟨#[]⟩))) ∧ w' = w := by
  have hies : s.toList.isEmpty = false := by simp [hns]
  have hieWh : Wh.toList.isEmpty = false := by simp [hnWh]
  have Hn := Lib.hid hn
  clear hn
  have hieR2 : R2.toList.isEmpty = true := by simp [heR2]
  go_enter Tryz.func58, Tryz.ntmps58
  go_wp2_with (go_at_call 78; refine (rrun_any _ _ (by omega)).mono ?_; rintro e w1 ⟨rfl, hw⟩; rw [hw]; clear hw; first | rw [Hn.out])
  all_goals first | (refine bodyPost_ret (by simp [results, Tryz.results58, go_sem]; try rfl) rfl ?_; first | exact ⟨rfl, rfl⟩ | (subst hFr; exact ⟨rfl, rfl⟩)) | (exfalso; simp_all; done) | (exfalso; omega)
theorem rparts_fm1 (hnWh : ¬ Wh.toList = []) (h1 : (Wh.size : Int) ≤ 1) (hnR2 : ¬ R2.toList = []) (hz2 : 0 < R2.size) (h46 : ((R2[0]'hz2).toNat : Int) = 46) (R3 : ByteArray) (hR3 : R2.extract 1 R2.size = R3) (hR3s : R3.size ≤ 9223372036854775807) (k : Nat) (hk : digN R3.data.toList = k) (hk1 : k + 1 ≤ R2.size) (Fr E : ByteArray) (hFr : R2.extract 1 (1 + k) = Fr) (hE : R2.extract (1 + k) R2.size = E) (hFs : Fr.size ≤ 9223372036854775807) (hEs : E.size ≤ 9223372036854775807) (heFr : Fr.toList = []) :
    Calls Tryz.prog 58 #[.string s] w fun e w' => e = .returned (partsV none) ∧ w' = w := by
  have hies : s.toList.isEmpty = false := by simp [hns]
  have hieWh : Wh.toList.isEmpty = false := by simp [hnWh]
  have Hn := Lib.hid hn
  clear hn
  have hieR2 : R2.toList.isEmpty = false := by simp [hnR2]
  have hq1 : (1 : Int) ≤ 1 + (k : Int) := by omega
  have hq2 : (1 : Int) + (k : Int) ≤ (R2.size : Int) := by omega
  have Hk := Lib.hid hk
  clear hk
  have hieFr : Fr.toList.isEmpty = true := by simp [heFr]
  go_enter Tryz.func58, Tryz.ntmps58
  go_wp2_with (go_at_call 78; refine (rrun_any _ _ (by omega)).mono ?_; rintro e w1 ⟨rfl, hw⟩; rw [hw]; clear hw; first | rw [Hn.out] | rw [Hk.out])
  all_goals first | (refine bodyPost_ret (by simp [results, Tryz.results58, go_sem]; try rfl) rfl ?_; first | exact ⟨rfl, rfl⟩ | (subst hFr; exact ⟨rfl, rfl⟩)) | (exfalso; simp_all; done) | (exfalso; omega)
theorem rparts_dem1 (hnWh : ¬ Wh.toList = []) (h1 : (Wh.size : Int) ≤ 1) (hnR2 : ¬ R2.toList = []) (hz2 : 0 < R2.size) (h46 : ((R2[0]'hz2).toNat : Int) = 46) (R3 : ByteArray) (hR3 : R2.extract 1 R2.size = R3) (hR3s : R3.size ≤ 9223372036854775807) (k : Nat) (hk : digN R3.data.toList = k) (hk1 : k + 1 ≤ R2.size) (Fr E : ByteArray) (hFr : R2.extract 1 (1 + k) = Fr) (hE : R2.extract (1 + k) R2.size = E) (hFs : Fr.size ≤ 9223372036854775807) (hEs : E.size ≤ 9223372036854775807) (hnFr : ¬ Fr.toList = []) (heE : E.toList = []) :
    Calls Tryz.prog 58 #[.string s] w fun e w' => e = .returned (partsV (some (true, Wh, Fr, ⟨#[]⟩))) ∧ w' = w := by
  have hies : s.toList.isEmpty = false := by simp [hns]
  have hieWh : Wh.toList.isEmpty = false := by simp [hnWh]
  have Hn := Lib.hid hn
  clear hn
  have hieR2 : R2.toList.isEmpty = false := by simp [hnR2]
  have hq1 : (1 : Int) ≤ 1 + (k : Int) := by omega
  have hq2 : (1 : Int) + (k : Int) ≤ (R2.size : Int) := by omega
  have Hk := Lib.hid hk
  clear hk
  have hieFr : Fr.toList.isEmpty = false := by simp [hnFr]
  have hieE : E.toList.isEmpty = true := by simp [heE]
  go_enter Tryz.func58, Tryz.ntmps58
  go_wp2_with (go_at_call 78; refine (rrun_any _ _ (by omega)).mono ?_; rintro e w1 ⟨rfl, hw⟩; rw [hw]; clear hw; first | rw [Hn.out] | rw [Hk.out])
  all_goals first | (refine bodyPost_ret (by simp [results, Tryz.results58, go_sem]; try rfl) rfl ?_; first | exact ⟨rfl, rfl⟩ | (subst hFr; exact ⟨rfl, rfl⟩)) | (exfalso; simp_all; done) | (exfalso; omega)
theorem rparts_zm2 (hnWh : ¬ Wh.toList = []) (h1 : 1 < (Wh.size : Int)) (hzW : 0 < Wh.size) (h48 : ¬ ((Wh[0]'hzW).toNat : Int) = 48) (heR2 : R2.toList = []) :
    Calls Tryz.prog 58 #[.string s] w fun e w' => e = .returned (partsV (some (true, Wh, ⟨#[]⟩, ⟨#[]⟩))) ∧ w' = w := by
  have hies : s.toList.isEmpty = false := by simp [hns]
  have hieWh : Wh.toList.isEmpty = false := by simp [hnWh]
  have Hn := Lib.hid hn
  clear hn
  have hieR2 : R2.toList.isEmpty = true := by simp [heR2]
  go_enter Tryz.func58, Tryz.ntmps58
  go_wp2_with (go_at_call 78; refine (rrun_any _ _ (by omega)).mono ?_; rintro e w1 ⟨rfl, hw⟩; rw [hw]; clear hw; first | rw [Hn.out])
  all_goals first | (refine bodyPost_ret (by simp [results, Tryz.results58, go_sem]; try rfl) rfl ?_; first | exact ⟨rfl, rfl⟩ | (subst hFr; exact ⟨rfl, rfl⟩)) | (exfalso; simp_all; done) | (exfalso; omega)
theorem rparts_fm2 (hnWh : ¬ Wh.toList = []) (h1 : 1 < (Wh.size : Int)) (hzW : 0 < Wh.size) (h48 : ¬ ((Wh[0]'hzW).toNat : Int) = 48) (hnR2 : ¬ R2.toList = []) (hz2 : 0 < R2.size) (h46 : ((R2[0]'hz2).toNat : Int) = 46) (R3 : ByteArray) (hR3 : R2.extract 1 R2.size = R3) (hR3s : R3.size ≤ 9223372036854775807) (k : Nat) (hk : digN R3.data.toList = k) (hk1 : k + 1 ≤ R2.size) (Fr E : ByteArray) (hFr : R2.extract 1 (1 + k) = Fr) (hE : R2.extract (1 + k) R2.size = E) (hFs : Fr.size ≤ 9223372036854775807) (hEs : E.size ≤ 9223372036854775807) (heFr : Fr.toList = []) :
    Calls Tryz.prog 58 #[.string s] w fun e w' => e = .returned (partsV none) ∧ w' = w := by
  have hies : s.toList.isEmpty = false := by simp [hns]
  have hieWh : Wh.toList.isEmpty = false := by simp [hnWh]
  have Hn := Lib.hid hn
  clear hn
  have hieR2 : R2.toList.isEmpty = false := by simp [hnR2]
  have hq1 : (1 : Int) ≤ 1 + (k : Int) := by omega
  have hq2 : (1 : Int) + (k : Int) ≤ (R2.size : Int) := by omega
  have Hk := Lib.hid hk
  clear hk
  have hieFr : Fr.toList.isEmpty = true := by simp [heFr]
  go_enter Tryz.func58, Tryz.ntmps58
  go_wp2_with (go_at_call 78; refine (rrun_any _ _ (by omega)).mono ?_; rintro e w1 ⟨rfl, hw⟩; rw [hw]; clear hw; first | rw [Hn.out] | rw [Hk.out])
  all_goals first | (refine bodyPost_ret (by simp [results, Tryz.results58, go_sem]; try rfl) rfl ?_; first | exact ⟨rfl, rfl⟩ | (subst hFr; exact ⟨rfl, rfl⟩)) | (exfalso; simp_all; done) | (exfalso; omega)
theorem rparts_dem2 (hnWh : ¬ Wh.toList = []) (h1 : 1 < (Wh.size : Int)) (hzW : 0 < Wh.size) (h48 : ¬ ((Wh[0]'hzW).toNat : Int) = 48) (hnR2 : ¬ R2.toList = []) (hz2 : 0 < R2.size) (h46 : ((R2[0]'hz2).toNat : Int) = 46) (R3 : ByteArray) (hR3 : R2.extract 1 R2.size = R3) (hR3s : R3.size ≤ 9223372036854775807) (k : Nat) (hk : digN R3.data.toList = k) (hk1 : k + 1 ≤ R2.size) (Fr E : ByteArray) (hFr : R2.extract 1 (1 + k) = Fr) (hE : R2.extract (1 + k) R2.size = E) (hFs : Fr.size ≤ 9223372036854775807) (hEs : E.size ≤ 9223372036854775807) (hnFr : ¬ Fr.toList = []) (heE : E.toList = []) :
    Calls Tryz.prog 58 #[.string s] w fun e w' => e = .returned (partsV (some (true, Wh, Fr, ⟨#[]⟩))) ∧ w' = w := by
  have hies : s.toList.isEmpty = false := by simp [hns]
  have hieWh : Wh.toList.isEmpty = false := by simp [hnWh]
  have Hn := Lib.hid hn
  clear hn
  have hieR2 : R2.toList.isEmpty = false := by simp [hnR2]
  have hq1 : (1 : Int) ≤ 1 + (k : Int) := by omega
  have hq2 : (1 : Int) + (k : Int) ≤ (R2.size : Int) := by omega
  have Hk := Lib.hid hk
  clear hk
  have hieFr : Fr.toList.isEmpty = false := by simp [hnFr]
  have hieE : E.toList.isEmpty = true := by simp [heE]
  go_enter Tryz.func58, Tryz.ntmps58
  go_wp2_with (go_at_call 78; refine (rrun_any _ _ (by omega)).mono ?_; rintro e w1 ⟨rfl, hw⟩; rw [hw]; clear hw; first | rw [Hn.out] | rw [Hk.out])
  all_goals first | (refine bodyPost_ret (by simp [results, Tryz.results58, go_sem]; try rfl) rfl ?_; first | exact ⟨rfl, rfl⟩ | (subst hFr; exact ⟨rfl, rfl⟩)) | (exfalso; simp_all; done) | (exfalso; omega)
end
end Go.Proofs.YtnapebgkcjnnbaaGreatDoor
