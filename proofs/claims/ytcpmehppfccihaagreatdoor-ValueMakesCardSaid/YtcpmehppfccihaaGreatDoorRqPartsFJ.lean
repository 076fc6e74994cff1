/-
  The reference's parts, walked case by case. No condition beside those that name the case.
-/
import Derived.Test.YtcpmehppfccihaaGreatDoorJ20
namespace Go.Proofs.YtcpmehppfccihaaGreatDoor
open Go.RowKit
set_option linter.unusedVariables false
set_option linter.unusedSimpArgs false
set_option linter.unusedSectionVars false
set_option maxRecDepth 100000
set_option maxHeartbeats 2000000
section
variable (s : ByteArray) (w : World) (hs : s.size ≤ 9223372036854775807) (hns : ¬ s.toList = []) (hz : 0 < s.size) (h45 : ¬ ((s[0]'hz).toNat : Int) = 45) (R : ByteArray) (hR : R = s) (hRs : R.size ≤ 9223372036854775807) (n : Nat) (hn : digN R.data.toList = n) (hn1 : n ≤ R.size) (Wh R2 : ByteArray) (hWh : R.extract 0 n = Wh) (hR2 : R.extract n R.size = R2) (hWs : Wh.size ≤ 9223372036854775807) (hR2s : R2.size ≤ 9223372036854775807) (hnWh : ¬ Wh.toList = []) (h1 : (Wh.size : Int) ≤ 1) (hnR2 : ¬ R2.toList = []) (hz2 : 0 < R2.size)
include s w hs hns hz h45 R hR hRs n hn hn1 Wh R2 hWh hR2 hWs hR2s hnWh h1 hnR2 hz2
section
variable (h46 : ¬ ((R2[0]'hz2).toNat : Int) = 46) (Fr E : ByteArray) (hFr : Fr = ⟨#[]⟩) (hE : E = R2) (hnE : ¬ E.toList = []) (hzE : 0 < E.size)
include h46 Fr E hFr hE hnE hzE
theorem rparts_onp1 (g1 : ¬ ((E[0]'hzE).toNat : Int) = 101) (g2 : ¬ ((E[0]'hzE).toNat : Int) = 69) :
    Calls Tryz.prog 52 #[.string s] w fun e w' => e = .returned (partsV none) ∧ w' = w := by
  subst hR
  have hieR : R.toList.isEmpty = false := by simp [hns]
  have hieWh : Wh.toList.isEmpty = false := by simp [hnWh]
  have Hn := Lib.hid hn
  clear hn
  subst hFr hE
  have hieE : E.toList.isEmpty = false := by simp [hnE]
  have g3 : (((E[0]'hzE).toNat : Int) != 101) = true := by simp [g1]
  have g4 : (((E[0]'hzE).toNat : Int) != 69) = true := by simp [g2]
  go_enter Tryz.func52, Tryz.ntmps52
  go_wp2_with (go_at_call 71; refine (rrun_any _ _ (by omega)).mono ?_; rintro e w1 ⟨rfl, hw⟩; rw [hw]; clear hw; first | rw [Hn.out])
  all_goals first | (refine bodyPost_ret (by simp [results, Tryz.results52, go_sem]; try rfl) rfl ?_; first | exact ⟨rfl, rfl⟩ | (subst hFr; exact ⟨rfl, rfl⟩)) | (exfalso; simp_all; done) | (exfalso; omega)
section
variable (g1 : ((E[0]'hzE).toNat : Int) = 101) (F : ByteArray) (hF : E.extract 1 E.size = F) (hFz : F.size ≤ 9223372036854775807)
include g1 F hF hFz
theorem rparts_x0enp1 (heF : F.toList = []) :
    Calls Tryz.prog 52 #[.string s] w fun e w' => e = .returned (partsV none) ∧ w' = w := by
  subst hR
  have hieR : R.toList.isEmpty = false := by simp [hns]
  have hieWh : Wh.toList.isEmpty = false := by simp [hnWh]
  have Hn := Lib.hid hn
  clear hn
  subst hFr hE
  have hieE : E.toList.isEmpty = false := by simp [hnE]
  have g3 : (((E[0]'hzE).toNat : Int) != 101) = false := by simp [g1]
  have hieF : F.toList.isEmpty = true := by simp [heF]
  go_enter Tryz.func52, Tryz.ntmps52
  go_wp2_with (go_at_call 71; refine (rrun_any _ _ (by omega)).mono ?_; rintro e w1 ⟨rfl, hw⟩; rw [hw]; clear hw; first | rw [Hn.out])
  all_goals first | (refine bodyPost_ret (by simp [results, Tryz.results52, go_sem]; try rfl) rfl ?_; first | exact ⟨rfl, rfl⟩ | (subst hFr; exact ⟨rfl, rfl⟩)) | (exfalso; simp_all; done) | (exfalso; omega)
theorem rparts_xbuenp1 (hnF : ¬ F.toList = []) (hzF : 0 < F.size) (s1 : ¬ ((F[0]'hzF).toNat : Int) = 43) (s2 : ¬ ((F[0]'hzF).toNat : Int) = 45) (G : ByteArray) (hG : G = F) (hGs : G.size ≤ 9223372036854775807) (m : Nat) (hm : digN G.data.toList = m) (hb : ¬ (m : Int) = (G.size : Int)) :
    Calls Tryz.prog 52 #[.string s] w fun e w' => e = .returned (partsV none) ∧ w' = w := by
  subst hR
  have hieR : R.toList.isEmpty = false := by simp [hns]
  have hieWh : Wh.toList.isEmpty = false := by simp [hnWh]
  have Hn := Lib.hid hn
  clear hn
  subst hFr hE
  have hieE : E.toList.isEmpty = false := by simp [hnE]
  have g3 : (((E[0]'hzE).toNat : Int) != 101) = false := by simp [g1]
  subst hG
  have hieG : G.toList.isEmpty = false := by simp [hnF]
  have Hm := Lib.hid hm
  clear hm
  go_enter Tryz.func52, Tryz.ntmps52
  go_wp2_with (go_at_call 71; refine (rrun_any _ _ (by omega)).mono ?_; rintro e w1 ⟨rfl, hw⟩; rw [hw]; clear hw; first | rw [Hn.out] | rw [Hm.out])
  all_goals first | (refine bodyPost_ret (by simp [results, Tryz.results52, go_sem]; try rfl) rfl ?_; first | exact ⟨rfl, rfl⟩ | (subst hFr; exact ⟨rfl, rfl⟩)) | (exfalso; simp_all; done) | (exfalso; omega)
theorem rparts_kuenp1 (hnF : ¬ F.toList = []) (hzF : 0 < F.size) (s1 : ¬ ((F[0]'hzF).toNat : Int) = 43) (s2 : ¬ ((F[0]'hzF).toNat : Int) = 45) (G : ByteArray) (hG : G = F) (hGs : G.size ≤ 9223372036854775807) (m : Nat) (hm : digN G.data.toList = m) (hb : m = G.size) :
    Calls Tryz.prog 52 #[.string s] w fun e w' => e = .returned (partsV (some (false, Wh, ⟨#[]⟩, F))) ∧ w' = w := by
  subst hR
  have hieR : R.toList.isEmpty = false := by simp [hns]
  have hieWh : Wh.toList.isEmpty = false := by simp [hnWh]
  have Hn := Lib.hid hn
  clear hn
  subst hFr hE
  have hieE : E.toList.isEmpty = false := by simp [hnE]
  have g3 : (((E[0]'hzE).toNat : Int) != 101) = false := by simp [g1]
  subst hG
  have hieG : G.toList.isEmpty = false := by simp [hnF]
  have Hm := Lib.hid hm
  clear hm
  subst hb
  go_enter Tryz.func52, Tryz.ntmps52
  go_wp2_with (go_at_call 71; refine (rrun_any _ _ (by omega)).mono ?_; rintro e w1 ⟨rfl, hw⟩; rw [hw]; clear hw; first | rw [Hn.out] | rw [Hm.out])
  all_goals first | (refine bodyPost_ret (by simp [results, Tryz.results52, go_sem]; try rfl) rfl ?_; first | exact ⟨rfl, rfl⟩ | (subst hFr; exact ⟨rfl, rfl⟩)) | (exfalso; simp_all; done) | (exfalso; omega)
theorem rparts_xeaenp1 (hnF : ¬ F.toList = []) (hzF : 0 < F.size) (s1 : ((F[0]'hzF).toNat : Int) = 43) (G : ByteArray) (hG : F.extract 1 F.size = G) (hGs : G.size ≤ 9223372036854775807) (m : Nat) (hm : digN G.data.toList = m) (heG : G.toList = []) :
    Calls Tryz.prog 52 #[.string s] w fun e w' => e = .returned (partsV none) ∧ w' = w := by
  subst hR
  have hieR : R.toList.isEmpty = false := by simp [hns]
  have hieWh : Wh.toList.isEmpty = false := by simp [hnWh]
  have Hn := Lib.hid hn
  clear hn
  subst hFr hE
  have hieE : E.toList.isEmpty = false := by simp [hnE]
  have g3 : (((E[0]'hzE).toNat : Int) != 101) = false := by simp [g1]
  have hieF : F.toList.isEmpty = false := by simp [hnF]
  have Hm := Lib.hid hm
  clear hm
  have hieG : G.toList.isEmpty = true := by simp [heG]
  go_enter Tryz.func52, Tryz.ntmps52
  go_wp2_with (go_at_call 71; refine (rrun_any _ _ (by omega)).mono ?_; rintro e w1 ⟨rfl, hw⟩; rw [hw]; clear hw; first | rw [Hn.out] | rw [Hm.out])
  all_goals first | (refine bodyPost_ret (by simp [results, Tryz.results52, go_sem]; try rfl) rfl ?_; first | exact ⟨rfl, rfl⟩ | (subst hFr; exact ⟨rfl, rfl⟩)) | (exfalso; simp_all; done) | (exfalso; omega)
theorem rparts_xbaenp1 (hnF : ¬ F.toList = []) (hzF : 0 < F.size) (s1 : ((F[0]'hzF).toNat : Int) = 43) (G : ByteArray) (hG : F.extract 1 F.size = G) (hGs : G.size ≤ 9223372036854775807) (m : Nat) (hm : digN G.data.toList = m) (hnG : ¬ G.toList = []) (hb : ¬ (m : Int) = (G.size : Int)) :
    Calls Tryz.prog 52 #[.string s] w fun e w' => e = .returned (partsV none) ∧ w' = w := by
  subst hR
  have hieR : R.toList.isEmpty = false := by simp [hns]
  have hieWh : Wh.toList.isEmpty = false := by simp [hnWh]
  have Hn := Lib.hid hn
  clear hn
  subst hFr hE
  have hieE : E.toList.isEmpty = false := by simp [hnE]
  have g3 : (((E[0]'hzE).toNat : Int) != 101) = false := by simp [g1]
  have hieF : F.toList.isEmpty = false := by simp [hnF]
  have Hm := Lib.hid hm
  clear hm
  have hieG : G.toList.isEmpty = false := by simp [hnG]
  go_enter Tryz.func52, Tryz.ntmps52
  go_wp2_with (go_at_call 71; refine (rrun_any _ _ (by omega)).mono ?_; rintro e w1 ⟨rfl, hw⟩; rw [hw]; clear hw; first | rw [Hn.out] | rw [Hm.out])
  all_goals first | (refine bodyPost_ret (by simp [results, Tryz.results52, go_sem]; try rfl) rfl ?_; first | exact ⟨rfl, rfl⟩ | (subst hFr; exact ⟨rfl, rfl⟩)) | (exfalso; simp_all; done) | (exfalso; omega)
theorem rparts_kaenp1 (hnF : ¬ F.toList = []) (hzF : 0 < F.size) (s1 : ((F[0]'hzF).toNat : Int) = 43) (G : ByteArray) (hG : F.extract 1 F.size = G) (hGs : G.size ≤ 9223372036854775807) (m : Nat) (hm : digN G.data.toList = m) (hnG : ¬ G.toList = []) (hb : m = G.size) :
    Calls Tryz.prog 52 #[.string s] w fun e w' => e = .returned (partsV (some (false, Wh, ⟨#[]⟩, F))) ∧ w' = w := by
  subst hR
  have hieR : R.toList.isEmpty = false := by simp [hns]
  have hieWh : Wh.toList.isEmpty = false := by simp [hnWh]
  have Hn := Lib.hid hn
  clear hn
  subst hFr hE
  have hieE : E.toList.isEmpty = false := by simp [hnE]
  have g3 : (((E[0]'hzE).toNat : Int) != 101) = false := by simp [g1]
  have hieF : F.toList.isEmpty = false := by simp [hnF]
  have Hm := Lib.hid hm
  clear hm
  have hieG : G.toList.isEmpty = false := by simp [hnG]
  subst hb
  go_enter Tryz.func52, Tryz.ntmps52
  go_wp2_with (go_at_call 71; refine (rrun_any _ _ (by omega)).mono ?_; rintro e w1 ⟨rfl, hw⟩; rw [hw]; clear hw; first | rw [Hn.out] | rw [Hm.out])
  all_goals first | (refine bodyPost_ret (by simp [results, Tryz.results52, go_sem]; try rfl) rfl ?_; first | exact ⟨rfl, rfl⟩ | (subst hFr; exact ⟨rfl, rfl⟩)) | (exfalso; simp_all; done) | (exfalso; omega)
theorem rparts_xebenp1 (hnF : ¬ F.toList = []) (hzF : 0 < F.size) (s1 : ¬ ((F[0]'hzF).toNat : Int) = 43) (s2 : ((F[0]'hzF).toNat : Int) = 45) (G : ByteArray) (hG : F.extract 1 F.size = G) (hGs : G.size ≤ 9223372036854775807) (m : Nat) (hm : digN G.data.toList = m) (heG : G.toList = []) :
    Calls Tryz.prog 52 #[.string s] w fun e w' => e = .returned (partsV none) ∧ w' = w := by
  subst hR
  have hieR : R.toList.isEmpty = false := by simp [hns]
  have hieWh : Wh.toList.isEmpty = false := by simp [hnWh]
  have Hn := Lib.hid hn
  clear hn
  subst hFr hE
  have hieE : E.toList.isEmpty = false := by simp [hnE]
  have g3 : (((E[0]'hzE).toNat : Int) != 101) = false := by simp [g1]
  have hieF : F.toList.isEmpty = false := by simp [hnF]
  have Hm := Lib.hid hm
  clear hm
  have hieG : G.toList.isEmpty = true := by simp [heG]
  go_enter Tryz.func52, Tryz.ntmps52
  go_wp2_with (go_at_call 71; refine (rrun_any _ _ (by omega)).mono ?_; rintro e w1 ⟨rfl, hw⟩; rw [hw]; clear hw; first | rw [Hn.out] | rw [Hm.out])
  all_goals first | (refine bodyPost_ret (by simp [results, Tryz.results52, go_sem]; try rfl) rfl ?_; first | exact ⟨rfl, rfl⟩ | (subst hFr; exact ⟨rfl, rfl⟩)) | (exfalso; simp_all; done) | (exfalso; omega)
theorem rparts_xbbenp1 (hnF : ¬ F.toList = []) (hzF : 0 < F.size) (s1 : ¬ ((F[0]'hzF).toNat : Int) = 43) (s2 : ((F[0]'hzF).toNat : Int) = 45) (G : ByteArray) (hG : F.extract 1 F.size = G) (hGs : G.size ≤ 9223372036854775807) (m : Nat) (hm : digN G.data.toList = m) (hnG : ¬ G.toList = []) (hb : ¬ (m : Int) = (G.size : Int)) :
    Calls Tryz.prog 52 #[.string s] w fun e w' => e = .returned (partsV none) ∧ w' = w := by
  subst hR
  have hieR : R.toList.isEmpty = false := by simp [hns]
  have hieWh : Wh.toList.isEmpty = false := by simp [hnWh]
  have Hn := Lib.hid hn
  clear hn
  subst hFr hE
  have hieE : E.toList.isEmpty = false := by simp [hnE]
  have g3 : (((E[0]'hzE).toNat : Int) != 101) = false := by simp [g1]
  have hieF : F.toList.isEmpty = false := by simp [hnF]
  have Hm := Lib.hid hm
  clear hm
  have hieG : G.toList.isEmpty = false := by simp [hnG]
  go_enter Tryz.func52, Tryz.ntmps52
  go_wp2_with (go_at_call 71; refine (rrun_any _ _ (by omega)).mono ?_; rintro e w1 ⟨rfl, hw⟩; rw [hw]; clear hw; first | rw [Hn.out] | rw [Hm.out])
  all_goals first | (refine bodyPost_ret (by simp [results, Tryz.results52, go_sem]; try rfl) rfl ?_; first | exact ⟨rfl, rfl⟩ | (subst hFr; exact ⟨rfl, rfl⟩)) | (exfalso; simp_all; done) | (exfalso; omega)
theorem rparts_kbenp1 (hnF : ¬ F.toList = []) (hzF : 0 < F.size) (s1 : ¬ ((F[0]'hzF).toNat : Int) = 43) (s2 : ((F[0]'hzF).toNat : Int) = 45) (G : ByteArray) (hG : F.extract 1 F.size = G) (hGs : G.size ≤ 9223372036854775807) (m : Nat) (hm : digN G.data.toList = m) (hnG : ¬ G.toList = []) (hb : m = G.size) :
    Calls Tryz.prog 52 #[.string s] w fun e w' => e = .returned (partsV (some (false, Wh, ⟨#[]⟩, F))) ∧ w' = w := by
  subst hR
  have hieR : R.toList.isEmpty = false := by simp [hns]
  have hieWh : Wh.toList.isEmpty = false := by simp [hnWh]
  have Hn := Lib.hid hn
  clear hn
  subst hFr hE
  have hieE : E.toList.isEmpty = false := by simp [hnE]
  have g3 : (((E[0]'hzE).toNat : Int) != 101) = false := by simp [g1]
  have hieF : F.toList.isEmpty = false := by simp [hnF]
  have Hm := Lib.hid hm
  clear hm
  have hieG : G.toList.isEmpty = false := by simp [hnG]
  subst hb
  go_enter Tryz.func52, Tryz.ntmps52
  go_wp2_with (go_at_call 71; refine (rrun_any _ _ (by omega)).mono ?_; rintro e w1 ⟨rfl, hw⟩; rw [hw]; clear hw; first | rw [Hn.out] | rw [Hm.out])
  all_goals first | (refine bodyPost_ret (by simp [results, Tryz.results52, go_sem]; try rfl) rfl ?_; first | exact ⟨rfl, rfl⟩ | (subst hFr; exact ⟨rfl, rfl⟩)) | (exfalso; simp_all; done) | (exfalso; omega)
end
section
variable (g0 : ¬ ((E[0]'hzE).toNat : Int) = 101) (g1 : ((E[0]'hzE).toNat : Int) = 69) (F : ByteArray) (hF : E.extract 1 E.size = F) (hFz : F.size ≤ 9223372036854775807)
include g0 g1 F hF hFz
theorem rparts_x0Enp1 (heF : F.toList = []) :
    Calls Tryz.prog 52 #[.string s] w fun e w' => e = .returned (partsV none) ∧ w' = w := by
  subst hR
  have hieR : R.toList.isEmpty = false := by simp [hns]
  have hieWh : Wh.toList.isEmpty = false := by simp [hnWh]
  have Hn := Lib.hid hn
  clear hn
  subst hFr hE
  have hieE : E.toList.isEmpty = false := by simp [hnE]
  have g3 : (((E[0]'hzE).toNat : Int) != 101) = true := by simp [g0]
  have g4 : (((E[0]'hzE).toNat : Int) != 69) = false := by simp [g1]
  have hieF : F.toList.isEmpty = true := by simp [heF]
  go_enter Tryz.func52, Tryz.ntmps52
  go_wp2_with (go_at_call 71; refine (rrun_any _ _ (by omega)).mono ?_; rintro e w1 ⟨rfl, hw⟩; rw [hw]; clear hw; first | rw [Hn.out])
  all_goals first | (refine bodyPost_ret (by simp [results, Tryz.results52, go_sem]; try rfl) rfl ?_; first | exact ⟨rfl, rfl⟩ | (subst hFr; exact ⟨rfl, rfl⟩)) | (exfalso; simp_all; done) | (exfalso; omega)
theorem rparts_xbuEnp1 (hnF : ¬ F.toList = []) (hzF : 0 < F.size) (s1 : ¬ ((F[0]'hzF).toNat : Int) = 43) (s2 : ¬ ((F[0]'hzF).toNat : Int) = 45) (G : ByteArray) (hG : G = F) (hGs : G.size ≤ 9223372036854775807) (m : Nat) (hm : digN G.data.toList = m) (hb : ¬ (m : Int) = (G.size : Int)) :
    Calls Tryz.prog 52 #[.string s] w fun e w' => e = .returned (partsV none) ∧ w' = w := by
  subst hR
  have hieR : R.toList.isEmpty = false := by simp [hns]
  have hieWh : Wh.toList.isEmpty = false := by simp [hnWh]
  have Hn := Lib.hid hn
  clear hn
  subst hFr hE
  have hieE : E.toList.isEmpty = false := by simp [hnE]
  have g3 : (((E[0]'hzE).toNat : Int) != 101) = true := by simp [g0]
  have g4 : (((E[0]'hzE).toNat : Int) != 69) = false := by simp [g1]
  subst hG
  have hieG : G.toList.isEmpty = false := by simp [hnF]
  have Hm := Lib.hid hm
  clear hm
  go_enter Tryz.func52, Tryz.ntmps52
  go_wp2_with (go_at_call 71; refine (rrun_any _ _ (by omega)).mono ?_; rintro e w1 ⟨rfl, hw⟩; rw [hw]; clear hw; first | rw [Hn.out] | rw [Hm.out])
  all_goals first | (refine bodyPost_ret (by simp [results, Tryz.results52, go_sem]; try rfl) rfl ?_; first | exact ⟨rfl, rfl⟩ | (subst hFr; exact ⟨rfl, rfl⟩)) | (exfalso; simp_all; done) | (exfalso; omega)
theorem rparts_kuEnp1 (hnF : ¬ F.toList = []) (hzF : 0 < F.size) (s1 : ¬ ((F[0]'hzF).toNat : Int) = 43) (s2 : ¬ ((F[0]'hzF).toNat : Int) = 45) (G : ByteArray) (hG : G = F) (hGs : G.size ≤ 9223372036854775807) (m : Nat) (hm : digN G.data.toList = m) (hb : m = G.size) :
    Calls Tryz.prog 52 #[.string s] w fun e w' => e = .returned (partsV (some (false, Wh, ⟨#[]⟩, F))) ∧ w' = w := by
  subst hR
  have hieR : R.toList.isEmpty = false := by simp [hns]
  have hieWh : Wh.toList.isEmpty = false := by simp [hnWh]
  have Hn := Lib.hid hn
  clear hn
  subst hFr hE
  have hieE : E.toList.isEmpty = false := by simp [hnE]
  have g3 : (((E[0]'hzE).toNat : Int) != 101) = true := by simp [g0]
  have g4 : (((E[0]'hzE).toNat : Int) != 69) = false := by simp [g1]
  subst hG
  have hieG : G.toList.isEmpty = false := by simp [hnF]
  have Hm := Lib.hid hm
  clear hm
  subst hb
  go_enter Tryz.func52, Tryz.ntmps52
  go_wp2_with (go_at_call 71; refine (rrun_any _ _ (by omega)).mono ?_; rintro e w1 ⟨rfl, hw⟩; rw [hw]; clear hw; first | rw [Hn.out] | rw [Hm.out])
  all_goals first | (refine bodyPost_ret (by simp [results, Tryz.results52, go_sem]; try rfl) rfl ?_; first | exact ⟨rfl, rfl⟩ | (subst hFr; exact ⟨rfl, rfl⟩)) | (exfalso; simp_all; done) | (exfalso; omega)
theorem rparts_xeaEnp1 (hnF : ¬ F.toList = []) (hzF : 0 < F.size) (s1 : ((F[0]'hzF).toNat : Int) = 43) (G : ByteArray) (hG : F.extract 1 F.size = G) (hGs : G.size ≤ 9223372036854775807) (m : Nat) (hm : digN G.data.toList = m) (heG : G.toList = []) :
    Calls Tryz.prog 52 #[.string s] w fun e w' => e = .returned (partsV none) ∧ w' = w := by
  subst hR
  have hieR : R.toList.isEmpty = false := by simp [hns]
  have hieWh : Wh.toList.isEmpty = false := by simp [hnWh]
  have Hn := Lib.hid hn
  clear hn
  subst hFr hE
  have hieE : E.toList.isEmpty = false := by simp [hnE]
  have g3 : (((E[0]'hzE).toNat : Int) != 101) = true := by simp [g0]
  have g4 : (((E[0]'hzE).toNat : Int) != 69) = false := by simp [g1]
  have hieF : F.toList.isEmpty = false := by simp [hnF]
  have Hm := Lib.hid hm
  clear hm
  have hieG : G.toList.isEmpty = true := by simp [heG]
  go_enter Tryz.func52, Tryz.ntmps52
  go_wp2_with (go_at_call 71; refine (rrun_any _ _ (by omega)).mono ?_; rintro e w1 ⟨rfl, hw⟩; rw [hw]; clear hw; first | rw [Hn.out] | rw [Hm.out])
  all_goals first | (refine bodyPost_ret (by simp [results, Tryz.results52, go_sem]; try rfl) rfl ?_; first | exact ⟨rfl, rfl⟩ | (subst hFr; exact ⟨rfl, rfl⟩)) | (exfalso; simp_all; done) | (exfalso; omega)
theorem rparts_xbaEnp1 (hnF : ¬ F.toList = []) (hzF : 0 < F.size) (s1 : ((F[0]'hzF).toNat : Int) = 43) (G : ByteArray) (hG : F.extract 1 F.size = G) (hGs : G.size ≤ 9223372036854775807) (m : Nat) (hm : digN G.data.toList = m) (hnG : ¬ G.toList = []) (hb : ¬ (m : Int) = (G.size : Int)) :
    Calls Tryz.prog 52 #[.string s] w fun e w' => e = .returned (partsV none) ∧ w' = w := by
  subst hR
  have hieR : R.toList.isEmpty = false := by simp [hns]
  have hieWh : Wh.toList.isEmpty = false := by simp [hnWh]
  have Hn := Lib.hid hn
  clear hn
  subst hFr hE
  have hieE : E.toList.isEmpty = false := by simp [hnE]
  have g3 : (((E[0]'hzE).toNat : Int) != 101) = true := by simp [g0]
  have g4 : (((E[0]'hzE).toNat : Int) != 69) = false := by simp [g1]
  have hieF : F.toList.isEmpty = false := by simp [hnF]
  have Hm := Lib.hid hm
  clear hm
  have hieG : G.toList.isEmpty = false := by simp [hnG]
  go_enter Tryz.func52, Tryz.ntmps52
  go_wp2_with (go_at_call 71; refine (rrun_any _ _ (by omega)).mono ?_; rintro e w1 ⟨rfl, hw⟩; rw [hw]; clear hw; first | rw [Hn.out] | rw [Hm.out])
  all_goals first | (refine bodyPost_ret (by simp [results, Tryz.results52, go_sem]; try rfl) rfl ?_; first | exact ⟨rfl, rfl⟩ | (subst hFr; exact ⟨rfl, rfl⟩)) | (exfalso; simp_all; done) | (exfalso; omega)
theorem rparts_kaEnp1 (hnF : ¬ F.toList = []) (hzF : 0 < F.size) (s1 : ((F[0]'hzF).toNat : Int) = 43) (G : ByteArray) (hG : F.extract 1 F.size = G) (hGs : G.size ≤ 9223372036854775807) (m : Nat) (hm : digN G.data.toList = m) (hnG : ¬ G.toList = []) (hb : m = G.size) :
    Calls Tryz.prog 52 #[.string s] w fun e w' => e = .returned (partsV (some (false, Wh, ⟨#[]⟩, F))) ∧ w' = w := by
  subst hR
  have hieR : R.toList.isEmpty = false := by simp [hns]
  have hieWh : Wh.toList.isEmpty = false := by simp [hnWh]
  have Hn := Lib.hid hn
  clear hn
  subst hFr hE
  have hieE : E.toList.isEmpty = false := by simp [hnE]
  have g3 : (((E[0]'hzE).toNat : Int) != 101) = true := by simp [g0]
  have g4 : (((E[0]'hzE).toNat : Int) != 69) = false := by simp [g1]
  have hieF : F.toList.isEmpty = false := by simp [hnF]
  have Hm := Lib.hid hm
  clear hm
  have hieG : G.toList.isEmpty = false := by simp [hnG]
  subst hb
  go_enter Tryz.func52, Tryz.ntmps52
  go_wp2_with (go_at_call 71; refine (rrun_any _ _ (by omega)).mono ?_; rintro e w1 ⟨rfl, hw⟩; rw [hw]; clear hw; first | rw [Hn.out] | rw [Hm.out])
  all_goals first | (refine bodyPost_ret (by simp [results, Tryz.results52, go_sem]; try rfl) rfl ?_; first | exact ⟨rfl, rfl⟩ | (subst hFr; exact ⟨rfl, rfl⟩)) | (exfalso; simp_all; done) | (exfalso; omega)
theorem rparts_xebEnp1 (hnF : ¬ F.toList = []) (hzF : 0 < F.size) (s1 : ¬ ((F[0]'hzF).toNat : Int) = 43) (s2 : ((F[0]'hzF).toNat : Int) = 45) (G : ByteArray) (hG : F.extract 1 F.size = G) (hGs : G.size ≤ 9223372036854775807) (m : Nat) (hm : digN G.data.toList = m) (heG : G.toList = []) :
    Calls Tryz.prog 52 #[.string s] w fun e w' => e = .returned (partsV none) ∧ w' = w := by
  subst hR
  have hieR : R.toList.isEmpty = false := by simp [hns]
  have hieWh : Wh.toList.isEmpty = false := by simp [hnWh]
  have Hn := Lib.hid hn
  clear hn
  subst hFr hE
  have hieE : E.toList.isEmpty = false := by simp [hnE]
  have g3 : (((E[0]'hzE).toNat : Int) != 101) = true := by simp [g0]
  have g4 : (((E[0]'hzE).toNat : Int) != 69) = false := by simp [g1]
  have hieF : F.toList.isEmpty = false := by simp [hnF]
  have Hm := Lib.hid hm
  clear hm
  have hieG : G.toList.isEmpty = true := by simp [heG]
  go_enter Tryz.func52, Tryz.ntmps52
  go_wp2_with (go_at_call 71; refine (rrun_any _ _ (by omega)).mono ?_; rintro e w1 ⟨rfl, hw⟩; rw [hw]; clear hw; first | rw [Hn.out] | rw [Hm.out])
  all_goals first | (refine bodyPost_ret (by simp [results, Tryz.results52, go_sem]; try rfl) rfl ?_; first | exact ⟨rfl, rfl⟩ | (subst hFr; exact ⟨rfl, rfl⟩)) | (exfalso; simp_all; done) | (exfalso; omega)
theorem rparts_xbbEnp1 (hnF : ¬ F.toList = []) (hzF : 0 < F.size) (s1 : ¬ ((F[0]'hzF).toNat : Int) = 43) (s2 : ((F[0]'hzF).toNat : Int) = 45) (G : ByteArray) (hG : F.extract 1 F.size = G) (hGs : G.size ≤ 9223372036854775807) (m : Nat) (hm : digN G.data.toList = m) (hnG : ¬ G.toList = []) (hb : ¬ (m : Int) = (G.size : Int)) :
    Calls Tryz.prog 52 #[.string s] w fun e w' => e = .returned (partsV none) ∧ w' = w := by
  subst hR
  have hieR : R.toList.isEmpty = false := by simp [hns]
  have hieWh : Wh.toList.isEmpty = false := by simp [hnWh]
  have Hn := Lib.hid hn
  clear hn
  subst hFr hE
  have hieE : E.toList.isEmpty = false := by simp [hnE]
  have g3 : (((E[0]'hzE).toNat : Int) != 101) = true := by simp [g0]
  have g4 : (((E[0]'hzE).toNat : Int) != 69) = false := by simp [g1]
  have hieF : F.toList.isEmpty = false := by simp [hnF]
  have Hm := Lib.hid hm
  clear hm
  have hieG : G.toList.isEmpty = false := by simp [hnG]
  go_enter Tryz.func52, Tryz.ntmps52
  go_wp2_with (go_at_call 71; refine (rrun_any _ _ (by omega)).mono ?_; rintro e w1 ⟨rfl, hw⟩; rw [hw]; clear hw; first | rw [Hn.out] | rw [Hm.out])
  all_goals first | (refine bodyPost_ret (by simp [results, Tryz.results52, go_sem]; try rfl) rfl ?_; first | exact ⟨rfl, rfl⟩ | (subst hFr; exact ⟨rfl, rfl⟩)) | (exfalso; simp_all; done) | (exfalso; omega)
theorem rparts_kbEnp1 (hnF : ¬ F.toList = []) (hzF : 0 < F.size) (s1 : ¬ ((F[0]'hzF).toNat : Int) = 43) (s2 : ((F[0]'hzF).toNat : Int) = 45) (G : ByteArray) (hG : F.extract 1 F.size = G) (hGs : G.size ≤ 9223372036854775807) (m : Nat) (hm : digN G.data.toList = m) (hnG : ¬ G.toList = []) (hb : m = G.size) :
    Calls Tryz.prog 52 #[.string s] w fun e w' => e = .returned (partsV (some (false, Wh, ⟨#[]⟩, F))) ∧ w' = w := by
  subst hR
  have hieR : R.toList.isEmpty = false := by simp [hns]
  have hieWh : Wh.toList.isEmpty = false := by simp [hnWh]
  have Hn := Lib.hid hn
  clear hn
  subst hFr hE
  have hieE : E.toList.isEmpty = false := by simp [hnE]
  have g3 : (((E[0]'hzE).toNat : Int) != 101) = true := by simp [g0]
  have g4 : (((E[0]'hzE).toNat : Int) != 69) = false := by simp [g1]
  have hieF : F.toList.isEmpty = false := by simp [hnF]
  have Hm := Lib.hid hm
  clear hm
  have hieG : G.toList.isEmpty = false := by simp [hnG]
  subst hb
  go_enter Tryz.func52, Tryz.ntmps52
  go_wp2_with (go_at_call 71; refine (rrun_any _ _ (by omega)).mono ?_; rintro e w1 ⟨rfl, hw⟩; rw [hw]; clear hw; first | rw [Hn.out] | rw [Hm.out])
  all_goals first | (refine bodyPost_ret (by simp [results, Tryz.results52, go_sem]; try rfl) rfl ?_; first | exact ⟨rfl, rfl⟩ | (subst hFr; exact ⟨rfl, rfl⟩)) | (exfalso; simp_all; done) | (exfalso; omega)
end
end
section
variable (h46 : ((R2[0]'hz2).toNat : Int) = 46) (R3 : ByteArray) (hR3 : R2.extract 1 R2.size = R3) (hR3s : R3.size ≤ 9223372036854775807) (k : Nat) (hk : digN R3.data.toList = k) (hk1 : k + 1 ≤ R2.size) (Fr E : ByteArray) (hFr : R2.extract 1 (1 + k) = Fr) (hE : R2.extract (1 + k) R2.size = E) (hFs : Fr.size ≤ 9223372036854775807) (hEs : E.size ≤ 9223372036854775807) (hnFr : ¬ Fr.toList = []) (hnE : ¬ E.toList = []) (hzE : 0 < E.size)
include h46 R3 hR3 hR3s k hk hk1 Fr E hFr hE hFs hEs hnFr hnE hzE
theorem rparts_odp1 (g1 : ¬ ((E[0]'hzE).toNat : Int) = 101) (g2 : ¬ ((E[0]'hzE).toNat : Int) = 69) :
    Calls Tryz.prog 52 #[.string s] w fun e w' => e = .returned (partsV none) ∧ w' = w := by
  subst hR
  have hieR : R.toList.isEmpty = false := by simp [hns]
  have hieWh : Wh.toList.isEmpty = false := by simp [hnWh]
  have Hn := Lib.hid hn
  clear hn
  have hieR2 : R2.toList.isEmpty = false := by simp [hnR2]
  have hq1 : (1 : Int) ≤ 1 + (k : Int) := by omega
  have hq2 : (1 : Int) + (k : Int) ≤ (R2.size : Int) := by omega
  have Hk := Lib.hid hk
  clear hk
  have hieFr : Fr.toList.isEmpty = false := by simp [hnFr]
  have hieE : E.toList.isEmpty = false := by simp [hnE]
  have g3 : (((E[0]'hzE).toNat : Int) != 101) = true := by simp [g1]
  have g4 : (((E[0]'hzE).toNat : Int) != 69) = true := by simp [g2]
  go_enter Tryz.func52, Tryz.ntmps52
  go_wp2_with (go_at_call 71; refine (rrun_any _ _ (by omega)).mono ?_; rintro e w1 ⟨rfl, hw⟩; rw [hw]; clear hw; first | rw [Hn.out] | rw [Hk.out])
  all_goals first | (refine bodyPost_ret (by simp [results, Tryz.results52, go_sem]; try rfl) rfl ?_; first | exact ⟨rfl, rfl⟩ | (subst hFr; exact ⟨rfl, rfl⟩)) | (exfalso; simp_all; done) | (exfalso; omega)
section
variable (g1 : ((E[0]'hzE).toNat : Int) = 101) (F : ByteArray) (hF : E.extract 1 E.size = F) (hFz : F.size ≤ 9223372036854775807)
include g1 F hF hFz
theorem rparts_x0edp1 (heF : F.toList = []) :
    Calls Tryz.prog 52 #[.string s] w fun e w' => e = .returned (partsV none) ∧ w' = w := by
  subst hR
  have hieR : R.toList.isEmpty = false := by simp [hns]
  have hieWh : Wh.toList.isEmpty = false := by simp [hnWh]
  have Hn := Lib.hid hn
  clear hn
  have hieR2 : R2.toList.isEmpty = false := by simp [hnR2]
  have hq1 : (1 : Int) ≤ 1 + (k : Int) := by omega
  have hq2 : (1 : Int) + (k : Int) ≤ (R2.size : Int) := by omega
  have Hk := Lib.hid hk
  clear hk
  have hieFr : Fr.toList.isEmpty = false := by simp [hnFr]
  have hieE : E.toList.isEmpty = false := by simp [hnE]
  have g3 : (((E[0]'hzE).toNat : Int) != 101) = false := by simp [g1]
  have hieF : F.toList.isEmpty = true := by simp [heF]
  go_enter Tryz.func52, Tryz.ntmps52
  go_wp2_with (go_at_call 71; refine (rrun_any _ _ (by omega)).mono ?_; rintro e w1 ⟨rfl, hw⟩; rw [hw]; clear hw; first | rw [Hn.out] | rw [Hk.out])
  all_goals first | (refine bodyPost_ret (by simp [results, Tryz.results52, go_sem]; try rfl) rfl ?_; first | exact ⟨rfl, rfl⟩ | (subst hFr; exact ⟨rfl, rfl⟩)) | (exfalso; simp_all; done) | (exfalso; omega)
theorem rparts_xbuedp1 (hnF : ¬ F.toList = []) (hzF : 0 < F.size) (s1 : ¬ ((F[0]'hzF).toNat : Int) = 43) (s2 : ¬ ((F[0]'hzF).toNat : Int) = 45) (G : ByteArray) (hG : G = F) (hGs : G.size ≤ 9223372036854775807) (m : Nat) (hm : digN G.data.toList = m) (hb : ¬ (m : Int) = (G.size : Int)) :
    Calls Tryz.prog 52 #[.string s] w fun e w' => e = .returned (partsV none) ∧ w' = w := by
  subst hR
  have hieR : R.toList.isEmpty = false := by simp [hns]
  have hieWh : Wh.toList.isEmpty = false := by simp [hnWh]
  have Hn := Lib.hid hn
  clear hn
  have hieR2 : R2.toList.isEmpty = false := by simp [hnR2]
  have hq1 : (1 : Int) ≤ 1 + (k : Int) := by omega
  have hq2 : (1 : Int) + (k : Int) ≤ (R2.size : Int) := by omega
  have Hk := Lib.hid hk
  clear hk
  have hieFr : Fr.toList.isEmpty = false := by simp [hnFr]
  have hieE : E.toList.isEmpty = false := by simp [hnE]
  have g3 : (((E[0]'hzE).toNat : Int) != 101) = false := by simp [g1]
  subst hG
  have hieG : G.toList.isEmpty = false := by simp [hnF]
  have Hm := Lib.hid hm
  clear hm
  go_enter Tryz.func52, Tryz.ntmps52
  go_wp2_with (go_at_call 71; refine (rrun_any _ _ (by omega)).mono ?_; rintro e w1 ⟨rfl, hw⟩; rw [hw]; clear hw; first | rw [Hn.out] | rw [Hk.out] | rw [Hm.out])
  all_goals first | (refine bodyPost_ret (by simp [results, Tryz.results52, go_sem]; try rfl) rfl ?_; first | exact ⟨rfl, rfl⟩ | (subst hFr; exact ⟨rfl, rfl⟩)) | (exfalso; simp_all; done) | (exfalso; omega)
theorem rparts_kuedp1 (hnF : ¬ F.toList = []) (hzF : 0 < F.size) (s1 : ¬ ((F[0]'hzF).toNat : Int) = 43) (s2 : ¬ ((F[0]'hzF).toNat : Int) = 45) (G : ByteArray) (hG : G = F) (hGs : G.size ≤ 9223372036854775807) (m : Nat) (hm : digN G.data.toList = m) (hb : m = G.size) :
    Calls Tryz.prog 52 #[.string s] w fun e w' => e = .returned (partsV (some (false, Wh, Fr, F))) ∧ w' = w := by
  subst hR
  have hieR : R.toList.isEmpty = false := by simp [hns]
  have hieWh : Wh.toList.isEmpty = false := by simp [hnWh]
  have Hn := Lib.hid hn
  clear hn
  have hieR2 : R2.toList.isEmpty = false := by simp [hnR2]
  have hq1 : (1 : Int) ≤ 1 + (k : Int) := by omega
  have hq2 : (1 : Int) + (k : Int) ≤ (R2.size : Int) := by omega
  have Hk := Lib.hid hk
  clear hk
  have hieFr : Fr.toList.isEmpty = false := by simp [hnFr]
  have hieE : E.toList.isEmpty = false := by simp [hnE]
  have g3 : (((E[0]'hzE).toNat : Int) != 101) = false := by simp [g1]
  subst hG
  have hieG : G.toList.isEmpty = false := by simp [hnF]
  have Hm := Lib.hid hm
  clear hm
  subst hb
  go_enter Tryz.func52, Tryz.ntmps52
  go_wp2_with (go_at_call 71; refine (rrun_any _ _ (by omega)).mono ?_; rintro e w1 ⟨rfl, hw⟩; rw [hw]; clear hw; first | rw [Hn.out] | rw [Hk.out] | rw [Hm.out])
  all_goals first | (refine bodyPost_ret (by simp [results, Tryz.results52, go_sem]; try rfl) rfl ?_; first | exact ⟨rfl, rfl⟩ | (subst hFr; exact ⟨rfl, rfl⟩)) | (exfalso; simp_all; done) | (exfalso; omega)
theorem rparts_xeaedp1 (hnF : ¬ F.toList = []) (hzF : 0 < F.size) (s1 : ((F[0]'hzF).toNat : Int) = 43) (G : ByteArray) (hG : F.extract 1 F.size = G) (hGs : G.size ≤ 9223372036854775807) (m : Nat) (hm : digN G.data.toList = m) (heG : G.toList = []) :
    Calls Tryz.prog 52 #[.string s] w fun e w' => e = .returned (partsV none) ∧ w' = w := by
  subst hR
  have hieR : R.toList.isEmpty = false := by simp [hns]
  have hieWh : Wh.toList.isEmpty = false := by simp [hnWh]
  have Hn := Lib.hid hn
  clear hn
  have hieR2 : R2.toList.isEmpty = false := by simp [hnR2]
  have hq1 : (1 : Int) ≤ 1 + (k : Int) := by omega
  have hq2 : (1 : Int) + (k : Int) ≤ (R2.size : Int) := by omega
  have Hk := Lib.hid hk
  clear hk
  have hieFr : Fr.toList.isEmpty = false := by simp [hnFr]
  have hieE : E.toList.isEmpty = false := by simp [hnE]
  have g3 : (((E[0]'hzE).toNat : Int) != 101) = false := by simp [g1]
  have hieF : F.toList.isEmpty = false := by simp [hnF]
  have Hm := Lib.hid hm
  clear hm
  have hieG : G.toList.isEmpty = true := by simp [heG]
  go_enter Tryz.func52, Tryz.ntmps52
  go_wp2_with (go_at_call 71; refine (rrun_any _ _ (by omega)).mono ?_; rintro e w1 ⟨rfl, hw⟩; rw [hw]; clear hw; first | rw [Hn.out] | rw [Hk.out] | rw [Hm.out])
  all_goals first | (refine bodyPost_ret (by simp [results, Tryz.results52, go_sem]; try rfl) rfl ?_; first | exact ⟨rfl, rfl⟩ | (subst hFr; exact ⟨rfl, rfl⟩)) | (exfalso; simp_all; done) | (exfalso; omega)
theorem rparts_xbaedp1 (hnF : ¬ F.toList = []) (hzF : 0 < F.size) (s1 : ((F[0]'hzF).toNat : Int) = 43) (G : ByteArray) (hG : F.extract 1 F.size = G) (hGs : G.size ≤ 9223372036854775807) (m : Nat) (hm : digN G.data.toList = m) (hnG : ¬ G.toList = []) (hb : ¬ (m : Int) = (G.size : Int)) :
    Calls Tryz.prog 52 #[.string s] w fun e w' => e = .returned (partsV none) ∧ w' = w := by
  subst hR
  have hieR : R.toList.isEmpty = false := by simp [hns]
  have hieWh : Wh.toList.isEmpty = false := by simp [hnWh]
  have Hn := Lib.hid hn
  clear hn
  have hieR2 : R2.toList.isEmpty = false := by simp [hnR2]
  have hq1 : (1 : Int) ≤ 1 + (k : Int) := by omega
  have hq2 : (1 : Int) + (k : Int) ≤ (R2.size : Int) := by omega
  have Hk := Lib.hid hk
  clear hk
  have hieFr : Fr.toList.isEmpty = false := by simp [hnFr]
  have hieE : E.toList.isEmpty = false := by simp [hnE]
  have g3 : (((E[0]'hzE).toNat : Int) != 101) = false := by simp [g1]
  have hieF : F.toList.isEmpty = false := by simp [hnF]
  have Hm := Lib.hid hm
  clear hm
  have hieG : G.toList.isEmpty = false := by simp [hnG]
  go_enter Tryz.func52, Tryz.ntmps52
  go_wp2_with (go_at_call 71; refine (rrun_any _ _ (by omega)).mono ?_; rintro e w1 ⟨rfl, hw⟩; rw [hw]; clear hw; first | rw [Hn.out] | rw [Hk.out] | rw [Hm.out])
  all_goals first | (refine bodyPost_ret (by simp [results, Tryz.results52, go_sem]; try rfl) rfl ?_; first | exact ⟨rfl, rfl⟩ | (subst hFr; exact ⟨rfl, rfl⟩)) | (exfalso; simp_all; done) | (exfalso; omega)
theorem rparts_kaedp1 (hnF : ¬ F.toList = []) (hzF : 0 < F.size) (s1 : ((F[0]'hzF).toNat : Int) = 43) (G : ByteArray) (hG : F.extract 1 F.size = G) (hGs : G.size ≤ 9223372036854775807) (m : Nat) (hm : digN G.data.toList = m) (hnG : ¬ G.toList = []) (hb : m = G.size) :
    Calls Tryz.prog 52 #[.string s] w fun e w' => e = .returned (partsV (some (false, Wh, Fr, F))) ∧ w' = w := by
  subst hR
  have hieR : R.toList.isEmpty = false := by simp [hns]
  have hieWh : Wh.toList.isEmpty = false := by simp [hnWh]
  have Hn := Lib.hid hn
  clear hn
  have hieR2 : R2.toList.isEmpty = false := by simp [hnR2]
  have hq1 : (1 : Int) ≤ 1 + (k : Int) := by omega
  have hq2 : (1 : Int) + (k : Int) ≤ (R2.size : Int) := by omega
  have Hk := Lib.hid hk
  clear hk
  have hieFr : Fr.toList.isEmpty = false := by simp [hnFr]
  have hieE : E.toList.isEmpty = false := by simp [hnE]
  have g3 : (((E[0]'hzE).toNat : Int) != 101) = false := by simp [g1]
  have hieF : F.toList.isEmpty = false := by simp [hnF]
  have Hm := Lib.hid hm
  clear hm
  have hieG : G.toList.isEmpty = false := by simp [hnG]
  subst hb
  go_enter Tryz.func52, Tryz.ntmps52
  go_wp2_with (go_at_call 71; refine (rrun_any _ _ (by omega)).mono ?_; rintro e w1 ⟨rfl, hw⟩; rw [hw]; clear hw; first | rw [Hn.out] | rw [Hk.out] | rw [Hm.out])
  all_goals first | (refine bodyPost_ret (by simp [results, Tryz.results52, go_sem]; try rfl) rfl ?_; first | exact ⟨rfl, rfl⟩ | (subst hFr; exact ⟨rfl, rfl⟩)) | (exfalso; simp_all; done) | (exfalso; omega)
end
end
end
end Go.Proofs.YtcpmehppfccihaaGreatDoor
