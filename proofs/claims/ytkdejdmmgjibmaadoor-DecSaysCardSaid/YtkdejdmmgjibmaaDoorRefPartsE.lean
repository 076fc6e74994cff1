/-
  The reference's parts, walked case by case. No condition beside those that name the case.
-/
import Derived.Test.YtkdejdmmgjibmaaDoorRefPow
import Derived.Test.YtkdejdmmgjibmaaDoorRefParts
namespace Go.Proofs.YtkdejdmmgjibmaaDoor
open Go.RowKit
set_option linter.unusedVariables false
set_option linter.unusedSimpArgs false
set_option maxRecDepth 100000 in
set_option maxHeartbeats 2000000 in
theorem rparts_xbaEnm2 (s : ByteArray) (w : World) (hs : s.size ≤ 1000) (hns : ¬ s.toList = []) (hz : 0 < s.size) (h45 : ((s[0]'hz).toNat : Int) = 45) (R : ByteArray) (hR : s.extract 1 s.size = R) (hRs : R.size ≤ 1000) (n : Nat) (hn : digN R.data.toList = n) (hn1 : n ≤ R.size) (Wh R2 : ByteArray) (hWh : R.extract 0 n = Wh) (hR2 : R.extract n R.size = R2) (hWs : Wh.size ≤ 1000) (hR2s : R2.size ≤ 1000) (hnWh : ¬ Wh.toList = []) (h1 : 1 < (Wh.size : Int)) (hzW : 0 < Wh.size) (h48 : ¬ ((Wh[0]'hzW).toNat : Int) = 48) (hnR2 : ¬ R2.toList = []) (hz2 : 0 < R2.size) (h46 : ¬ ((R2[0]'hz2).toNat : Int) = 46) (Fr E : ByteArray) (hFr : Fr = ⟨#[]⟩) (hE : E = R2) (hnE : ¬ E.toList = []) (hzE : 0 < E.size) (g0 : ¬ ((E[0]'hzE).toNat : Int) = 101) (g1 : ((E[0]'hzE).toNat : Int) = 69) (F : ByteArray) (hF : E.extract 1 E.size = F) (hFz : F.size ≤ 1000) (hnF : ¬ F.toList = []) (hzF : 0 < F.size) (s1 : ((F[0]'hzF).toNat : Int) = 43) (G : ByteArray) (hG : F.extract 1 F.size = G) (hGs : G.size ≤ 1000) (m : Nat) (hm : digN G.data.toList = m) (hnG : ¬ G.toList = []) (hb : ¬ (m : Int) = (G.size : Int)) :
    Calls Tryd.prog 30 #[.string s] w fun e w' => e = .returned (partsV none) ∧ w' = w := by
  have hies : s.toList.isEmpty = false := by simp [hns]
  have hieWh : Wh.toList.isEmpty = false := by simp [hnWh]
  have Hn := Lib.hid hn
  clear hn
  subst hFr hE
  have hieE : E.toList.isEmpty = false := by simp [hnE]
  have g3 : (((E[0]'hzE).toNat : Int) != 101) = true := by simp [g0]
  have g4 : (((E[0]'hzE).toNat : Int) != 69) = false := by simp [g1]
  have hieF : F.toList.isEmpty = false := by simp [hnF]
  have Hm := Lib.hid hm
  clear hm
  have hieG : G.toList.isEmpty = false := by simp [hnG]
  go_enter Tryd.func30, Tryd.ntmps30
  go_wp2_with (go_at_call 47; refine (rrun_any _ _ (by omega)).mono ?_; rintro e w1 ⟨rfl, hw⟩; rw [hw]; clear hw; first | rw [Hn.out] | rw [Hm.out])
  all_goals first | (refine bodyPost_ret (by simp [results, Tryd.results30, go_sem]; try rfl) rfl ?_; exact ⟨rfl, rfl⟩) | (exfalso; simp_all; done) | (exfalso; omega)

set_option maxRecDepth 100000 in
set_option maxHeartbeats 2000000 in
theorem rparts_kaEnm2 (s : ByteArray) (w : World) (hs : s.size ≤ 1000) (hns : ¬ s.toList = []) (hz : 0 < s.size) (h45 : ((s[0]'hz).toNat : Int) = 45) (R : ByteArray) (hR : s.extract 1 s.size = R) (hRs : R.size ≤ 1000) (n : Nat) (hn : digN R.data.toList = n) (hn1 : n ≤ R.size) (Wh R2 : ByteArray) (hWh : R.extract 0 n = Wh) (hR2 : R.extract n R.size = R2) (hWs : Wh.size ≤ 1000) (hR2s : R2.size ≤ 1000) (hnWh : ¬ Wh.toList = []) (h1 : 1 < (Wh.size : Int)) (hzW : 0 < Wh.size) (h48 : ¬ ((Wh[0]'hzW).toNat : Int) = 48) (hnR2 : ¬ R2.toList = []) (hz2 : 0 < R2.size) (h46 : ¬ ((R2[0]'hz2).toNat : Int) = 46) (Fr E : ByteArray) (hFr : Fr = ⟨#[]⟩) (hE : E = R2) (hnE : ¬ E.toList = []) (hzE : 0 < E.size) (g0 : ¬ ((E[0]'hzE).toNat : Int) = 101) (g1 : ((E[0]'hzE).toNat : Int) = 69) (F : ByteArray) (hF : E.extract 1 E.size = F) (hFz : F.size ≤ 1000) (hnF : ¬ F.toList = []) (hzF : 0 < F.size) (s1 : ((F[0]'hzF).toNat : Int) = 43) (G : ByteArray) (hG : F.extract 1 F.size = G) (hGs : G.size ≤ 1000) (m : Nat) (hm : digN G.data.toList = m) (hnG : ¬ G.toList = []) (hb : m = G.size) :
    Calls Tryd.prog 30 #[.string s] w fun e w' => e = .returned (partsV (some (true, Wh, ⟨#[]⟩, F))) ∧ w' = w := by
  have hies : s.toList.isEmpty = false := by simp [hns]
  have hieWh : Wh.toList.isEmpty = false := by simp [hnWh]
  have Hn := Lib.hid hn
  clear hn
  subst hFr hE
  have hieE : E.toList.isEmpty = false := by simp [hnE]
  have g3 : (((E[0]'hzE).toNat : Int) != 101) = true := by simp [g0]
  have g4 : (((E[0]'hzE).toNat : Int) != 69) = false := by simp [g1]
  have hieF : F.toList.isEmpty = false := by simp [hnF]
  have Hm := Lib.hid hm
  clear hm
  have hieG : G.toList.isEmpty = false := by simp [hnG]
  subst hb
  go_enter Tryd.func30, Tryd.ntmps30
  go_wp2_with (go_at_call 47; refine (rrun_any _ _ (by omega)).mono ?_; rintro e w1 ⟨rfl, hw⟩; rw [hw]; clear hw; first | rw [Hn.out] | rw [Hm.out])
  all_goals first | (refine bodyPost_ret (by simp [results, Tryd.results30, go_sem]; try rfl) rfl ?_; exact ⟨rfl, rfl⟩) | (exfalso; simp_all; done) | (exfalso; omega)

set_option maxRecDepth 100000 in
set_option maxHeartbeats 2000000 in
theorem rparts_xebEnm2 (s : ByteArray) (w : World) (hs : s.size ≤ 1000) (hns : ¬ s.toList = []) (hz : 0 < s.size) (h45 : ((s[0]'hz).toNat : Int) = 45) (R : ByteArray) (hR : s.extract 1 s.size = R) (hRs : R.size ≤ 1000) (n : Nat) (hn : digN R.data.toList = n) (hn1 : n ≤ R.size) (Wh R2 : ByteArray) (hWh : R.extract 0 n = Wh) (hR2 : R.extract n R.size = R2) (hWs : Wh.size ≤ 1000) (hR2s : R2.size ≤ 1000) (hnWh : ¬ Wh.toList = []) (h1 : 1 < (Wh.size : Int)) (hzW : 0 < Wh.size) (h48 : ¬ ((Wh[0]'hzW).toNat : Int) = 48) (hnR2 : ¬ R2.toList = []) (hz2 : 0 < R2.size) (h46 : ¬ ((R2[0]'hz2).toNat : Int) = 46) (Fr E : ByteArray) (hFr : Fr = ⟨#[]⟩) (hE : E = R2) (hnE : ¬ E.toList = []) (hzE : 0 < E.size) (g0 : ¬ ((E[0]'hzE).toNat : Int) = 101) (g1 : ((E[0]'hzE).toNat : Int) = 69) (F : ByteArray) (hF : E.extract 1 E.size = F) (hFz : F.size ≤ 1000) (hnF : ¬ F.toList = []) (hzF : 0 < F.size) (s1 : ¬ ((F[0]'hzF).toNat : Int) = 43) (s2 : ((F[0]'hzF).toNat : Int) = 45) (G : ByteArray) (hG : F.extract 1 F.size = G) (hGs : G.size ≤ 1000) (m : Nat) (hm : digN G.data.toList = m) (heG : G.toList = []) :
    Calls Tryd.prog 30 #[.string s] w fun e w' => e = .returned (partsV none) ∧ w' = w := by
  have hies : s.toList.isEmpty = false := by simp [hns]
  have hieWh : Wh.toList.isEmpty = false := by simp [hnWh]
  have Hn := Lib.hid hn
  clear hn
  subst hFr hE
  have hieE : E.toList.isEmpty = false := by simp [hnE]
  have g3 : (((E[0]'hzE).toNat : Int) != 101) = true := by simp [g0]
  have g4 : (((E[0]'hzE).toNat : Int) != 69) = false := by simp [g1]
  have hieF : F.toList.isEmpty = false := by simp [hnF]
  have Hm := Lib.hid hm
  clear hm
  have hieG : G.toList.isEmpty = true := by simp [heG]
  go_enter Tryd.func30, Tryd.ntmps30
  go_wp2_with (go_at_call 47; refine (rrun_any _ _ (by omega)).mono ?_; rintro e w1 ⟨rfl, hw⟩; rw [hw]; clear hw; first | rw [Hn.out] | rw [Hm.out])
  all_goals first | (refine bodyPost_ret (by simp [results, Tryd.results30, go_sem]; try rfl) rfl ?_; exact ⟨rfl, rfl⟩) | (exfalso; simp_all; done) | (exfalso; omega)

set_option maxRecDepth 100000 in
set_option maxHeartbeats 2000000 in
theorem rparts_xbbEnm2 (s : ByteArray) (w : World) (hs : s.size ≤ 1000) (hns : ¬ s.toList = []) (hz : 0 < s.size) (h45 : ((s[0]'hz).toNat : Int) = 45) (R : ByteArray) (hR : s.extract 1 s.size = R) (hRs : R.size ≤ 1000) (n : Nat) (hn : digN R.data.toList = n) (hn1 : n ≤ R.size) (Wh R2 : ByteArray) (hWh : R.extract 0 n = Wh) (hR2 : R.extract n R.size = R2) (hWs : Wh.size ≤ 1000) (hR2s : R2.size ≤ 1000) (hnWh : ¬ Wh.toList = []) (h1 : 1 < (Wh.size : Int)) (hzW : 0 < Wh.size) (h48 : ¬ ((Wh[0]'hzW).toNat : Int) = 48) (hnR2 : ¬ R2.toList = []) (hz2 : 0 < R2.size) (h46 : ¬ ((R2[0]'hz2).toNat : Int) = 46) (Fr E : ByteArray) (hFr : Fr = ⟨#[]⟩) (hE : E = R2) (hnE : ¬ E.toList = []) (hzE : 0 < E.size) (g0 : ¬ ((E[0]'hzE).toNat : Int) = 101) (g1 : ((E[0]'hzE).toNat : Int) = 69) (F : ByteArray) (hF : E.extract 1 E.size = F) (hFz : F.size ≤ 1000) (hnF : ¬ F.toList = []) (hzF : 0 < F.size) (s1 : ¬ ((F[0]'hzF).toNat : Int) = 43) (s2 : ((F[0]'hzF).toNat : Int) = 45) (G : ByteArray) (hG : F.extract 1 F.size = G) (hGs : G.size ≤ 1000) (m : Nat) (hm : digN G.data.toList = m) (hnG : ¬ G.toList = []) (hb : ¬ (m : Int) = (G.size : Int)) :
    Calls Tryd.prog 30 #[.string s] w fun e w' => e = .returned (partsV none) ∧ w' = w := by
  have hies : s.toList.isEmpty = false := by simp [hns]
  have hieWh : Wh.toList.isEmpty = false := by simp [hnWh]
  have Hn := Lib.hid hn
  clear hn
  subst hFr hE
  have hieE : E.toList.isEmpty = false := by simp [hnE]
  have g3 : (((E[0]'hzE).toNat : Int) != 101) = true := by simp [g0]
  have g4 : (((E[0]'hzE).toNat : Int) != 69) = false := by simp [g1]
  have hieF : F.toList.isEmpty = false := by simp [hnF]
  have Hm := Lib.hid hm
  clear hm
  have hieG : G.toList.isEmpty = false := by simp [hnG]
  go_enter Tryd.func30, Tryd.ntmps30
  go_wp2_with (go_at_call 47; refine (rrun_any _ _ (by omega)).mono ?_; rintro e w1 ⟨rfl, hw⟩; rw [hw]; clear hw; first | rw [Hn.out] | rw [Hm.out])
  all_goals first | (refine bodyPost_ret (by simp [results, Tryd.results30, go_sem]; try rfl) rfl ?_; exact ⟨rfl, rfl⟩) | (exfalso; simp_all; done) | (exfalso; omega)

set_option maxRecDepth 100000 in
set_option maxHeartbeats 2000000 in
theorem rparts_kbEnm2 (s : ByteArray) (w : World) (hs : s.size ≤ 1000) (hns : ¬ s.toList = []) (hz : 0 < s.size) (h45 : ((s[0]'hz).toNat : Int) = 45) (R : ByteArray) (hR : s.extract 1 s.size = R) (hRs : R.size ≤ 1000) (n : Nat) (hn : digN R.data.toList = n) (hn1 : n ≤ R.size) (Wh R2 : ByteArray) (hWh : R.extract 0 n = Wh) (hR2 : R.extract n R.size = R2) (hWs : Wh.size ≤ 1000) (hR2s : R2.size ≤ 1000) (hnWh : ¬ Wh.toList = []) (h1 : 1 < (Wh.size : Int)) (hzW : 0 < Wh.size) (h48 : ¬ ((Wh[0]'hzW).toNat : Int) = 48) (hnR2 : ¬ R2.toList = []) (hz2 : 0 < R2.size) (h46 : ¬ ((R2[0]'hz2).toNat : Int) = 46) (Fr E : ByteArray) (hFr : Fr = ⟨#[]⟩) (hE : E = R2) (hnE : ¬ E.toList = []) (hzE : 0 < E.size) (g0 : ¬ ((E[0]'hzE).toNat : Int) = 101) (g1 : ((E[0]'hzE).toNat : Int) = 69) (F : ByteArray) (hF : E.extract 1 E.size = F) (hFz : F.size ≤ 1000) (hnF : ¬ F.toList = []) (hzF : 0 < F.size) (s1 : ¬ ((F[0]'hzF).toNat : Int) = 43) (s2 : ((F[0]'hzF).toNat : Int) = 45) (G : ByteArray) (hG : F.extract 1 F.size = G) (hGs : G.size ≤ 1000) (m : Nat) (hm : digN G.data.toList = m) (hnG : ¬ G.toList = []) (hb : m = G.size) :
    Calls Tryd.prog 30 #[.string s] w fun e w' => e = .returned (partsV (some (true, Wh, ⟨#[]⟩, F))) ∧ w' = w := by
  have hies : s.toList.isEmpty = false := by simp [hns]
  have hieWh : Wh.toList.isEmpty = false := by simp [hnWh]
  have Hn := Lib.hid hn
  clear hn
  subst hFr hE
  have hieE : E.toList.isEmpty = false := by simp [hnE]
  have g3 : (((E[0]'hzE).toNat : Int) != 101) = true := by simp [g0]
  have g4 : (((E[0]'hzE).toNat : Int) != 69) = false := by simp [g1]
  have hieF : F.toList.isEmpty = false := by simp [hnF]
  have Hm := Lib.hid hm
  clear hm
  have hieG : G.toList.isEmpty = false := by simp [hnG]
  subst hb
  go_enter Tryd.func30, Tryd.ntmps30
  go_wp2_with (go_at_call 47; refine (rrun_any _ _ (by omega)).mono ?_; rintro e w1 ⟨rfl, hw⟩; rw [hw]; clear hw; first | rw [Hn.out] | rw [Hm.out])
  all_goals first | (refine bodyPost_ret (by simp [results, Tryd.results30, go_sem]; try rfl) rfl ?_; exact ⟨rfl, rfl⟩) | (exfalso; simp_all; done) | (exfalso; omega)

set_option maxRecDepth 100000 in
set_option maxHeartbeats 2000000 in
theorem rparts_odm2 (s : ByteArray) (w : World) (hs : s.size ≤ 1000) (hns : ¬ s.toList = []) (hz : 0 < s.size) (h45 : ((s[0]'hz).toNat : Int) = 45) (R : ByteArray) (hR : s.extract 1 s.size = R) (hRs : R.size ≤ 1000) (n : Nat) (hn : digN R.data.toList = n) (hn1 : n ≤ R.size) (Wh R2 : ByteArray) (hWh : R.extract 0 n = Wh) (hR2 : R.extract n R.size = R2) (hWs : Wh.size ≤ 1000) (hR2s : R2.size ≤ 1000) (hnWh : ¬ Wh.toList = []) (h1 : 1 < (Wh.size : Int)) (hzW : 0 < Wh.size) (h48 : ¬ ((Wh[0]'hzW).toNat : Int) = 48) (hnR2 : ¬ R2.toList = []) (hz2 : 0 < R2.size) (h46 : ((R2[0]'hz2).toNat : Int) = 46) (R3 : ByteArray) (hR3 : R2.extract 1 R2.size = R3) (hR3s : R3.size ≤ 1000) (k : Nat) (hk : digN R3.data.toList = k) (hk1 : k + 1 ≤ R2.size) (Fr E : ByteArray) (hFr : R2.extract 1 (1 + k) = Fr) (hE : R2.extract (1 + k) R2.size = E) (hFs : Fr.size ≤ 1000) (hEs : E.size ≤ 1000) (hnFr : ¬ Fr.toList = []) (hnE : ¬ E.toList = []) (hzE : 0 < E.size) (g1 : ¬ ((E[0]'hzE).toNat : Int) = 101) (g2 : ¬ ((E[0]'hzE).toNat : Int) = 69) :
    Calls Tryd.prog 30 #[.string s] w fun e w' => e = .returned (partsV none) ∧ w' = w := by
  have hies : s.toList.isEmpty = false := by simp [hns]
  have hieWh : Wh.toList.isEmpty = false := by simp [hnWh]
  have Hn := Lib.hid hn
  clear hn
  have hieR2 : R2.toList.isEmpty = false := by simp [hnR2]
  have hq1 : (1 : Int) ≤ 1 + (k : Int) := by omega
  have hq2 : (1 : Int) + (k : Int) ≤ (R2.size : Int) := by omega
  have Hk := Lib.hid hk
  clear hk
  have hieFr : Fr.toList.isEmpty = false := by simp [hnFr]
  have hieE : E.toList.isEmpty = false := by simp [hnE]
  have g3 : (((E[0]'hzE).toNat : Int) != 101) = true := by simp [g1]
  have g4 : (((E[0]'hzE).toNat : Int) != 69) = true := by simp [g2]
  go_enter Tryd.func30, Tryd.ntmps30
  go_wp2_with (go_at_call 47; refine (rrun_any _ _ (by omega)).mono ?_; rintro e w1 ⟨rfl, hw⟩; rw [hw]; clear hw; first | rw [Hn.out] | rw [Hk.out])
  all_goals first | (refine bodyPost_ret (by simp [results, Tryd.results30, go_sem]; try rfl) rfl ?_; exact ⟨rfl, rfl⟩) | (exfalso; simp_all; done) | (exfalso; omega)

set_option maxRecDepth 100000 in
set_option maxHeartbeats 2000000 in
theorem rparts_x0edm2 (s : ByteArray) (w : World) (hs : s.size ≤ 1000) (hns : ¬ s.toList = []) (hz : 0 < s.size) (h45 : ((s[0]'hz).toNat : Int) = 45) (R : ByteArray) (hR : s.extract 1 s.size = R) (hRs : R.size ≤ 1000) (n : Nat) (hn : digN R.data.toList = n) (hn1 : n ≤ R.size) (Wh R2 : ByteArray) (hWh : R.extract 0 n = Wh) (hR2 : R.extract n R.size = R2) (hWs : Wh.size ≤ 1000) (hR2s : R2.size ≤ 1000) (hnWh : ¬ Wh.toList = []) (h1 : 1 < (Wh.size : Int)) (hzW : 0 < Wh.size) (h48 : ¬ ((Wh[0]'hzW).toNat : Int) = 48) (hnR2 : ¬ R2.toList = []) (hz2 : 0 < R2.size) (h46 : ((R2[0]'hz2).toNat : Int) = 46) (R3 : ByteArray) (hR3 : R2.extract 1 R2.size = R3) (hR3s : R3.size ≤ 1000) (k : Nat) (hk : digN R3.data.toList = k) (hk1 : k + 1 ≤ R2.size) (Fr E : ByteArray) (hFr : R2.extract 1 (1 + k) = Fr) (hE : R2.extract (1 + k) R2.size = E) (hFs : Fr.size ≤ 1000) (hEs : E.size ≤ 1000) (hnFr : ¬ Fr.toList = []) (hnE : ¬ E.toList = []) (hzE : 0 < E.size) (g1 : ((E[0]'hzE).toNat : Int) = 101) (F : ByteArray) (hF : E.extract 1 E.size = F) (hFz : F.size ≤ 1000) (heF : F.toList = []) :
    Calls Tryd.prog 30 #[.string s] w fun e w' => e = .returned (partsV none) ∧ w' = w := by
  have hies : s.toList.isEmpty = false := by simp [hns]
  have hieWh : Wh.toList.isEmpty = false := by simp [hnWh]
  have Hn := Lib.hid hn
  clear hn
  have hieR2 : R2.toList.isEmpty = false := by simp [hnR2]
  have hq1 : (1 : Int) ≤ 1 + (k : Int) := by omega
  have hq2 : (1 : Int) + (k : Int) ≤ (R2.size : Int) := by omega
  have Hk := Lib.hid hk
  clear hk
  have hieFr : Fr.toList.isEmpty = false := by simp [hnFr]
  have hieE : E.toList.isEmpty = false := by simp [hnE]
  have g3 : (((E[0]'hzE).toNat : Int) != 101) = false := by simp [g1]
  have hieF : F.toList.isEmpty = true := by simp [heF]
  go_enter Tryd.func30, Tryd.ntmps30
  go_wp2_with (go_at_call 47; refine (rrun_any _ _ (by omega)).mono ?_; rintro e w1 ⟨rfl, hw⟩; rw [hw]; clear hw; first | rw [Hn.out] | rw [Hk.out])
  all_goals first | (refine bodyPost_ret (by simp [results, Tryd.results30, go_sem]; try rfl) rfl ?_; exact ⟨rfl, rfl⟩) | (exfalso; simp_all; done) | (exfalso; omega)

set_option maxRecDepth 100000 in
set_option maxHeartbeats 2000000 in
theorem rparts_xbuedm2 (s : ByteArray) (w : World) (hs : s.size ≤ 1000) (hns : ¬ s.toList = []) (hz : 0 < s.size) (h45 : ((s[0]'hz).toNat : Int) = 45) (R : ByteArray) (hR : s.extract 1 s.size = R) (hRs : R.size ≤ 1000) (n : Nat) (hn : digN R.data.toList = n) (hn1 : n ≤ R.size) (Wh R2 : ByteArray) (hWh : R.extract 0 n = Wh) (hR2 : R.extract n R.size = R2) (hWs : Wh.size ≤ 1000) (hR2s : R2.size ≤ 1000) (hnWh : ¬ Wh.toList = []) (h1 : 1 < (Wh.size : Int)) (hzW : 0 < Wh.size) (h48 : ¬ ((Wh[0]'hzW).toNat : Int) = 48) (hnR2 : ¬ R2.toList = []) (hz2 : 0 < R2.size) (h46 : ((R2[0]'hz2).toNat : Int) = 46) (R3 : ByteArray) (hR3 : R2.extract 1 R2.size = R3) (hR3s : R3.size ≤ 1000) (k : Nat) (hk : digN R3.data.toList = k) (hk1 : k + 1 ≤ R2.size) (Fr E : ByteArray) (hFr : R2.extract 1 (1 + k) = Fr) (hE : R2.extract (1 + k) R2.size = E) (hFs : Fr.size ≤ 1000) (hEs : E.size ≤ 1000) (hnFr : ¬ Fr.toList = []) (hnE : ¬ E.toList = []) (hzE : 0 < E.size) (g1 : ((E[0]'hzE).toNat : Int) = 101) (F : ByteArray) (hF : E.extract 1 E.size = F) (hFz : F.size ≤ 1000) (hnF : ¬ F.toList = []) (hzF : 0 < F.size) (s1 : ¬ ((F[0]'hzF).toNat : Int) = 43) (s2 : ¬ ((F[0]'hzF).toNat : Int) = 45) (G : ByteArray) (hG : G = F) (hGs : G.size ≤ 1000) (m : Nat) (hm : digN G.data.toList = m) (hb : ¬ (m : Int) = (G.size : Int)) :
    Calls Tryd.prog 30 #[.string s] w fun e w' => e = .returned (partsV none) ∧ w' = w := by
  have hies : s.toList.isEmpty = false := by simp [hns]
  have hieWh : Wh.toList.isEmpty = false := by simp [hnWh]
  have Hn := Lib.hid hn
  clear hn
  have hieR2 : R2.toList.isEmpty = false := by simp [hnR2]
  have hq1 : (1 : Int) ≤ 1 + (k : Int) := by omega
  have hq2 : (1 : Int) + (k : Int) ≤ (R2.size : Int) := by omega
  have Hk := Lib.hid hk
  clear hk
  have hieFr : Fr.toList.isEmpty = false := by simp [hnFr]
  have hieE : E.toList.isEmpty = false := by simp [hnE]
  have g3 : (((E[0]'hzE).toNat : Int) != 101) = false := by simp [g1]
  subst hG
  have hieG : G.toList.isEmpty = false := by simp [hnF]
  have Hm := Lib.hid hm
  clear hm
  go_enter Tryd.func30, Tryd.ntmps30
  go_wp2_with (go_at_call 47; refine (rrun_any _ _ (by omega)).mono ?_; rintro e w1 ⟨rfl, hw⟩; rw [hw]; clear hw; first | rw [Hn.out] | rw [Hk.out] | rw [Hm.out])
  all_goals first | (refine bodyPost_ret (by simp [results, Tryd.results30, go_sem]; try rfl) rfl ?_; exact ⟨rfl, rfl⟩) | (exfalso; simp_all; done) | (exfalso; omega)

set_option maxRecDepth 100000 in
set_option maxHeartbeats 2000000 in
theorem rparts_kuedm2 (s : ByteArray) (w : World) (hs : s.size ≤ 1000) (hns : ¬ s.toList = []) (hz : 0 < s.size) (h45 : ((s[0]'hz).toNat : Int) = 45) (R : ByteArray) (hR : s.extract 1 s.size = R) (hRs : R.size ≤ 1000) (n : Nat) (hn : digN R.data.toList = n) (hn1 : n ≤ R.size) (Wh R2 : ByteArray) (hWh : R.extract 0 n = Wh) (hR2 : R.extract n R.size = R2) (hWs : Wh.size ≤ 1000) (hR2s : R2.size ≤ 1000) (hnWh : ¬ Wh.toList = []) (h1 : 1 < (Wh.size : Int)) (hzW : 0 < Wh.size) (h48 : ¬ ((Wh[0]'hzW).toNat : Int) = 48) (hnR2 : ¬ R2.toList = []) (hz2 : 0 < R2.size) (h46 : ((R2[0]'hz2).toNat : Int) = 46) (R3 : ByteArray) (hR3 : R2.extract 1 R2.size = R3) (hR3s : R3.size ≤ 1000) (k : Nat) (hk : digN R3.data.toList = k) (hk1 : k + 1 ≤ R2.size) (Fr E : ByteArray) (hFr : R2.extract 1 (1 + k) = Fr) (hE : R2.extract (1 + k) R2.size = E) (hFs : Fr.size ≤ 1000) (hEs : E.size ≤ 1000) (hnFr : ¬ Fr.toList = []) (hnE : ¬ E.toList = []) (hzE : 0 < E.size) (g1 : ((E[0]'hzE).toNat : Int) = 101) (F : ByteArray) (hF : E.extract 1 E.size = F) (hFz : F.size ≤ 1000) (hnF : ¬ F.toList = []) (hzF : 0 < F.size) (s1 : ¬ ((F[0]'hzF).toNat : Int) = 43) (s2 : ¬ ((F[0]'hzF).toNat : Int) = 45) (G : ByteArray) (hG : G = F) (hGs : G.size ≤ 1000) (m : Nat) (hm : digN G.data.toList = m) (hb : m = G.size) :
    Calls Tryd.prog 30 #[.string s] w fun e w' => e = .returned (partsV (some (true, Wh, Fr, F))) ∧ w' = w := by
  have hies : s.toList.isEmpty = false := by simp [hns]
  have hieWh : Wh.toList.isEmpty = false := by simp [hnWh]
  have Hn := Lib.hid hn
  clear hn
  have hieR2 : R2.toList.isEmpty = false := by simp [hnR2]
  have hq1 : (1 : Int) ≤ 1 + (k : Int) := by omega
  have hq2 : (1 : Int) + (k : Int) ≤ (R2.size : Int) := by omega
  have Hk := Lib.hid hk
  clear hk
  have hieFr : Fr.toList.isEmpty = false := by simp [hnFr]
  have hieE : E.toList.isEmpty = false := by simp [hnE]
  have g3 : (((E[0]'hzE).toNat : Int) != 101) = false := by simp [g1]
  subst hG
  have hieG : G.toList.isEmpty = false := by simp [hnF]
  have Hm := Lib.hid hm
  clear hm
  subst hb
  go_enter Tryd.func30, Tryd.ntmps30
  go_wp2_with (go_at_call 47; refine (rrun_any _ _ (by omega)).mono ?_; rintro e w1 ⟨rfl, hw⟩; rw [hw]; clear hw; first | rw [Hn.out] | rw [Hk.out] | rw [Hm.out])
  all_goals first | (refine bodyPost_ret (by simp [results, Tryd.results30, go_sem]; try rfl) rfl ?_; exact ⟨rfl, rfl⟩) | (exfalso; simp_all; done) | (exfalso; omega)

set_option maxRecDepth 100000 in
set_option maxHeartbeats 2000000 in
theorem rparts_xeaedm2 (s : ByteArray) (w : World) (hs : s.size ≤ 1000) (hns : ¬ s.toList = []) (hz : 0 < s.size) (h45 : ((s[0]'hz).toNat : Int) = 45) (R : ByteArray) (hR : s.extract 1 s.size = R) (hRs : R.size ≤ 1000) (n : Nat) (hn : digN R.data.toList = n) (hn1 : n ≤ R.size) (Wh R2 : ByteArray) (hWh : R.extract 0 n = Wh) (hR2 : R.extract n R.size = R2) (hWs : Wh.size ≤ 1000) (hR2s : R2.size ≤ 1000) (hnWh : ¬ Wh.toList = []) (h1 : 1 < (Wh.size : Int)) (hzW : 0 < Wh.size) (h48 : ¬ ((Wh[0]'hzW).toNat : Int) = 48) (hnR2 : ¬ R2.toList = []) (hz2 : 0 < R2.size) (h46 : ((R2[0]'hz2).toNat : Int) = 46) (R3 : ByteArray) (hR3 : R2.extract 1 R2.size = R3) (hR3s : R3.size ≤ 1000) (k : Nat) (hk : digN R3.data.toList = k) (hk1 : k + 1 ≤ R2.size) (Fr E : ByteArray) (hFr : R2.extract 1 (1 + k) = Fr) (hE : R2.extract (1 + k) R2.size = E) (hFs : Fr.size ≤ 1000) (hEs : E.size ≤ 1000) (hnFr : ¬ Fr.toList = []) (hnE : ¬ E.toList = []) (hzE : 0 < E.size) (g1 : ((E[0]'hzE).toNat : Int) = 101) (F : ByteArray) (hF : E.extract 1 E.size = F) (hFz : F.size ≤ 1000) (hnF : ¬ F.toList = []) (hzF : 0 < F.size) (s1 : ((F[0]'hzF).toNat : Int) = 43) (G : ByteArray) (hG : F.extract 1 F.size = G) (hGs : G.size ≤ 1000) (m : Nat) (hm : digN G.data.toList = m) (heG : G.toList = []) :
    Calls Tryd.prog 30 #[.string s] w fun e w' => e = .returned (partsV none) ∧ w' = w := by
  have hies : s.toList.isEmpty = false := by simp [hns]
  have hieWh : Wh.toList.isEmpty = false := by simp [hnWh]
  have Hn := Lib.hid hn
  clear hn
  have hieR2 : R2.toList.isEmpty = false := by simp [hnR2]
  have hq1 : (1 : Int) ≤ 1 + (k : Int) := by omega
  have hq2 : (1 : Int) + (k : Int) ≤ (R2.size : Int) := by omega
  have Hk := Lib.hid hk
  clear hk
  have hieFr : Fr.toList.isEmpty = false := by simp [hnFr]
  have hieE : E.toList.isEmpty = false := by simp [hnE]
  have g3 : (((E[0]'hzE).toNat : Int) != 101) = false := by simp [g1]
  have hieF : F.toList.isEmpty = false := by simp [hnF]
  have Hm := Lib.hid hm
  clear hm
  have hieG : G.toList.isEmpty = true := by simp [heG]
  go_enter Tryd.func30, Tryd.ntmps30
  go_wp2_with (go_at_call 47; refine (rrun_any _ _ (by omega)).mono ?_; rintro e w1 ⟨rfl, hw⟩; rw [hw]; clear hw; first | rw [Hn.out] | rw [Hk.out] | rw [Hm.out])
  all_goals first | (refine bodyPost_ret (by simp [results, Tryd.results30, go_sem]; try rfl) rfl ?_; exact ⟨rfl, rfl⟩) | (exfalso; simp_all; done) | (exfalso; omega)

set_option maxRecDepth 100000 in
set_option maxHeartbeats 2000000 in
theorem rparts_xbaedm2 (s : ByteArray) (w : World) (hs : s.size ≤ 1000) (hns : ¬ s.toList = []) (hz : 0 < s.size) (h45 : ((s[0]'hz).toNat : Int) = 45) (R : ByteArray) (hR : s.extract 1 s.size = R) (hRs : R.size ≤ 1000) (n : Nat) (hn : digN R.data.toList = n) (hn1 : n ≤ R.size) (Wh R2 : ByteArray) (hWh : R.extract 0 n = Wh) (hR2 : R.extract n R.size = R2) (hWs : Wh.size ≤ 1000) (hR2s : R2.size ≤ 1000) (hnWh : ¬ Wh.toList = []) (h1 : 1 < (Wh.size : Int)) (hzW : 0 < Wh.size) (h48 : ¬ ((Wh[0]'hzW).toNat : Int) = 48) (hnR2 : ¬ R2.toList = []) (hz2 : 0 < R2.size) (h46 : ((R2[0]'hz2).toNat : Int) = 46) (R3 : ByteArray) (hR3 : R2.extract 1 R2.size = R3) (hR3s : R3.size ≤ 1000) (k : Nat) (hk : digN R3.data.toList = k) (hk1 : k + 1 ≤ R2.size) (Fr E : ByteArray) (hFr : R2.extract 1 (1 + k) = Fr) (hE : R2.extract (1 + k) R2.size = E) (hFs : Fr.size ≤ 1000) (hEs : E.size ≤ 1000) (hnFr : ¬ Fr.toList = []) (hnE : ¬ E.toList = []) (hzE : 0 < E.size) (g1 : ((E[0]'hzE).toNat : Int) = 101) (F : ByteArray) (hF : E.extract 1 E.size = F) (hFz : F.size ≤ 1000) (hnF : ¬ F.toList = []) (hzF : 0 < F.size) (s1 : ((F[0]'hzF).toNat : Int) = 43) (G : ByteArray) (hG : F.extract 1 F.size = G) (hGs : G.size ≤ 1000) (m : Nat) (hm : digN G.data.toList = m) (hnG : ¬ G.toList = []) (hb : ¬ (m : Int) = (G.size : Int)) :
    Calls Tryd.prog 30 #[.string s] w fun e w' => e = .returned (partsV none) ∧ w' = w := by
  have hies : s.toList.isEmpty = false := by simp [hns]
  have hieWh : Wh.toList.isEmpty = false := by simp [hnWh]
  have Hn := Lib.hid hn
  clear hn
  have hieR2 : R2.toList.isEmpty = false := by simp [hnR2]
  have hq1 : (1 : Int) ≤ 1 + (k : Int) := by omega
  have hq2 : (1 : Int) + (k : Int) ≤ (R2.size : Int) := by omega
  have Hk := Lib.hid hk
  clear hk
  have hieFr : Fr.toList.isEmpty = false := by simp [hnFr]
  have hieE : E.toList.isEmpty = false := by simp [hnE]
  have g3 : (((E[0]'hzE).toNat : Int) != 101) = false := by simp [g1]
  have hieF : F.toList.isEmpty = false := by simp [hnF]
  have Hm := Lib.hid hm
  clear hm
  have hieG : G.toList.isEmpty = false := by simp [hnG]
  go_enter Tryd.func30, Tryd.ntmps30
  go_wp2_with (go_at_call 47; refine (rrun_any _ _ (by omega)).mono ?_; rintro e w1 ⟨rfl, hw⟩; rw [hw]; clear hw; first | rw [Hn.out] | rw [Hk.out] | rw [Hm.out])
  all_goals first | (refine bodyPost_ret (by simp [results, Tryd.results30, go_sem]; try rfl) rfl ?_; exact ⟨rfl, rfl⟩) | (exfalso; simp_all; done) | (exfalso; omega)

set_option maxRecDepth 100000 in
set_option maxHeartbeats 2000000 in
theorem rparts_kaedm2 (s : ByteArray) (w : World) (hs : s.size ≤ 1000) (hns : ¬ s.toList = []) (hz : 0 < s.size) (h45 : ((s[0]'hz).toNat : Int) = 45) (R : ByteArray) (hR : s.extract 1 s.size = R) (hRs : R.size ≤ 1000) (n : Nat) (hn : digN R.data.toList = n) (hn1 : n ≤ R.size) (Wh R2 : ByteArray) (hWh : R.extract 0 n = Wh) (hR2 : R.extract n R.size = R2) (hWs : Wh.size ≤ 1000) (hR2s : R2.size ≤ 1000) (hnWh : ¬ Wh.toList = []) (h1 : 1 < (Wh.size : Int)) (hzW : 0 < Wh.size) (h48 : ¬ ((Wh[0]'hzW).toNat : Int) = 48) (hnR2 : ¬ R2.toList = []) (hz2 : 0 < R2.size) (h46 : ((R2[0]'hz2).toNat : Int) = 46) (R3 : ByteArray) (hR3 : R2.extract 1 R2.size = R3) (hR3s : R3.size ≤ 1000) (k : Nat) (hk : digN R3.data.toList = k) (hk1 : k + 1 ≤ R2.size) (Fr E : ByteArray) (hFr : R2.extract 1 (1 + k) = Fr) (hE : R2.extract (1 + k) R2.size = E) (hFs : Fr.size ≤ 1000) (hEs : E.size ≤ 1000) (hnFr : ¬ Fr.toList = []) (hnE : ¬ E.toList = []) (hzE : 0 < E.size) (g1 : ((E[0]'hzE).toNat : Int) = 101) (F : ByteArray) (hF : E.extract 1 E.size = F) (hFz : F.size ≤ 1000) (hnF : ¬ F.toList = []) (hzF : 0 < F.size) (s1 : ((F[0]'hzF).toNat : Int) = 43) (G : ByteArray) (hG : F.extract 1 F.size = G) (hGs : G.size ≤ 1000) (m : Nat) (hm : digN G.data.toList = m) (hnG : ¬ G.toList = []) (hb : m = G.size) :
    Calls Tryd.prog 30 #[.string s] w fun e w' => e = .returned (partsV (some (true, Wh, Fr, F))) ∧ w' = w := by
  have hies : s.toList.isEmpty = false := by simp [hns]
  have hieWh : Wh.toList.isEmpty = false := by simp [hnWh]
  have Hn := Lib.hid hn
  clear hn
  have hieR2 : R2.toList.isEmpty = false := by simp [hnR2]
  have hq1 : (1 : Int) ≤ 1 + (k : Int) := by omega
  have hq2 : (1 : Int) + (k : Int) ≤ (R2.size : Int) := by omega
  have Hk := Lib.hid hk
  clear hk
  have hieFr : Fr.toList.isEmpty = false := by simp [hnFr]
  have hieE : E.toList.isEmpty = false := by simp [hnE]
  have g3 : (((E[0]'hzE).toNat : Int) != 101) = false := by simp [g1]
  have hieF : F.toList.isEmpty = false := by simp [hnF]
  have Hm := Lib.hid hm
  clear hm
  have hieG : G.toList.isEmpty = false := by simp [hnG]
  subst hb
  go_enter Tryd.func30, Tryd.ntmps30
  go_wp2_with (go_at_call 47; refine (rrun_any _ _ (by omega)).mono ?_; rintro e w1 ⟨rfl, hw⟩; rw [hw]; clear hw; first | rw [Hn.out] | rw [Hk.out] | rw [Hm.out])
  all_goals first | (refine bodyPost_ret (by simp [results, Tryd.results30, go_sem]; try rfl) rfl ?_; exact ⟨rfl, rfl⟩) | (exfalso; simp_all; done) | (exfalso; omega)

set_option maxRecDepth 100000 in
set_option maxHeartbeats 2000000 in
theorem rparts_xebedm2 (s : ByteArray) (w : World) (hs : s.size ≤ 1000) (hns : ¬ s.toList = []) (hz : 0 < s.size) (h45 : ((s[0]'hz).toNat : Int) = 45) (R : ByteArray) (hR : s.extract 1 s.size = R) (hRs : R.size ≤ 1000) (n : Nat) (hn : digN R.data.toList = n) (hn1 : n ≤ R.size) (Wh R2 : ByteArray) (hWh : R.extract 0 n = Wh) (hR2 : R.extract n R.size = R2) (hWs : Wh.size ≤ 1000) (hR2s : R2.size ≤ 1000) (hnWh : ¬ Wh.toList = []) (h1 : 1 < (Wh.size : Int)) (hzW : 0 < Wh.size) (h48 : ¬ ((Wh[0]'hzW).toNat : Int) = 48) (hnR2 : ¬ R2.toList = []) (hz2 : 0 < R2.size) (h46 : ((R2[0]'hz2).toNat : Int) = 46) (R3 : ByteArray) (hR3 : R2.extract 1 R2.size = R3) (hR3s : R3.size ≤ 1000) (k : Nat) (hk : digN R3.data.toList = k) (hk1 : k + 1 ≤ R2.size) (Fr E : ByteArray) (hFr : R2.extract 1 (1 + k) = Fr) (hE : R2.extract (1 + k) R2.size = E) (hFs : Fr.size ≤ 1000) (hEs : E.size ≤ 1000) (hnFr : ¬ Fr.toList = []) (hnE : ¬ E.toList = []) (hzE : 0 < E.size) (g1 : ((E[0]'hzE).toNat : Int) = 101) (F : ByteArray) (hF : E.extract 1 E.size = F) (hFz : F.size ≤ 1000) (hnF : ¬ F.toList = []) (hzF : 0 < F.size) (s1 : ¬ ((F[0]'hzF).toNat : Int) = 43) (s2 : ((F[0]'hzF).toNat : Int) = 45) (G : ByteArray) (hG : F.extract 1 F.size = G) (hGs : G.size ≤ 1000) (m : Nat) (hm : digN G.data.toList = m) (heG : G.toList = []) :
    Calls Tryd.prog 30 #[.string s] w fun e w' => e = .returned (partsV none) ∧ w' = w := by
  have hies : s.toList.isEmpty = false := by simp [hns]
  have hieWh : Wh.toList.isEmpty = false := by simp [hnWh]
  have Hn := Lib.hid hn
  clear hn
  have hieR2 : R2.toList.isEmpty = false := by simp [hnR2]
  have hq1 : (1 : Int) ≤ 1 + (k : Int) := by omega
  have hq2 : (1 : Int) + (k : Int) ≤ (R2.size : Int) := by omega
  have Hk := Lib.hid hk
  clear hk
  have hieFr : Fr.toList.isEmpty = false := by simp [hnFr]
  have hieE : E.toList.isEmpty = false := by simp [hnE]
  have g3 : (((E[0]'hzE).toNat : Int) != 101) = false := by simp [g1]
  have hieF : F.toList.isEmpty = false := by simp [hnF]
  have Hm := Lib.hid hm
  clear hm
  have hieG : G.toList.isEmpty = true := by simp [heG]
  go_enter Tryd.func30, Tryd.ntmps30
  go_wp2_with (go_at_call 47; refine (rrun_any _ _ (by omega)).mono ?_; rintro e w1 ⟨rfl, hw⟩; rw [hw]; clear hw; first | rw [Hn.out] | rw [Hk.out] | rw [Hm.out])
  all_goals first | (refine bodyPost_ret (by simp [results, Tryd.results30, go_sem]; try rfl) rfl ?_; exact ⟨rfl, rfl⟩) | (exfalso; simp_all; done) | (exfalso; omega)

set_option maxRecDepth 100000 in
set_option maxHeartbeats 2000000 in
theorem rparts_xbbedm2 (s : ByteArray) (w : World) (hs : s.size ≤ 1000) (hns : ¬ s.toList = []) (hz : 0 < s.size) (h45 : ((s[0]'hz).toNat : Int) = 45) (R : ByteArray) (hR : s.extract 1 s.size = R) (hRs : R.size ≤ 1000) (n : Nat) (hn : digN R.data.toList = n) (hn1 : n ≤ R.size) (Wh R2 : ByteArray) (hWh : R.extract 0 n = Wh) (hR2 : R.extract n R.size = R2) (hWs : Wh.size ≤ 1000) (hR2s : R2.size ≤ 1000) (hnWh : ¬ Wh.toList = []) (h1 : 1 < (Wh.size : Int)) (hzW : 0 < Wh.size) (h48 : ¬ ((Wh[0]'hzW).toNat : Int) = 48) (hnR2 : ¬ R2.toList = []) (hz2 : 0 < R2.size) (h46 : ((R2[0]'hz2).toNat : Int) = 46) (R3 : ByteArray) (hR3 : R2.extract 1 R2.size = R3) (hR3s : R3.size ≤ 1000) (k : Nat) (hk : digN R3.data.toList = k) (hk1 : k + 1 ≤ R2.size) (Fr E : ByteArray) (hFr : R2.extract 1 (1 + k) = Fr) (hE : R2.extract (1 + k) R2.size = E) (hFs : Fr.size ≤ 1000) (hEs : E.size ≤ 1000) (hnFr : ¬ Fr.toList = []) (hnE : ¬ E.toList = []) (hzE : 0 < E.size) (g1 : ((E[0]'hzE).toNat : Int) = 101) (F : ByteArray) (hF : E.extract 1 E.size = F) (hFz : F.size ≤ 1000) (hnF : ¬ F.toList = []) (hzF : 0 < F.size) (s1 : ¬ ((F[0]'hzF).toNat : Int) = 43) (s2 : ((F[0]'hzF).toNat : Int) = 45) (G : ByteArray) (hG : F.extract 1 F.size = G) (hGs : G.size ≤ 1000) (m : Nat) (hm : digN G.data.toList = m) (hnG : ¬ G.toList = []) (hb : ¬ (m : Int) = (G.size : Int)) :
    Calls Tryd.prog 30 #[.string s] w fun e w' => e = .returned (partsV none) ∧ w' = w := by
  have hies : s.toList.isEmpty = false := by simp [hns]
  have hieWh : Wh.toList.isEmpty = false := by simp [hnWh]
  have Hn := Lib.hid hn
  clear hn
  have hieR2 : R2.toList.isEmpty = false := by simp [hnR2]
  have hq1 : (1 : Int) ≤ 1 + (k : Int) := by omega
  have hq2 : (1 : Int) + (k : Int) ≤ (R2.size : Int) := by omega
  have Hk := Lib.hid hk
  clear hk
  have hieFr : Fr.toList.isEmpty = false := by simp [hnFr]
  have hieE : E.toList.isEmpty = false := by simp [hnE]
  have g3 : (((E[0]'hzE).toNat : Int) != 101) = false := by simp [g1]
  have hieF : F.toList.isEmpty = false := by simp [hnF]
  have Hm := Lib.hid hm
  clear hm
  have hieG : G.toList.isEmpty = false := by simp [hnG]
  go_enter Tryd.func30, Tryd.ntmps30
  go_wp2_with (go_at_call 47; refine (rrun_any _ _ (by omega)).mono ?_; rintro e w1 ⟨rfl, hw⟩; rw [hw]; clear hw; first | rw [Hn.out] | rw [Hk.out] | rw [Hm.out])
  all_goals first | (refine bodyPost_ret (by simp [results, Tryd.results30, go_sem]; try rfl) rfl ?_; exact ⟨rfl, rfl⟩) | (exfalso; simp_all; done) | (exfalso; omega)

set_option maxRecDepth 100000 in
set_option maxHeartbeats 2000000 in
theorem rparts_kbedm2 (s : ByteArray) (w : World) (hs : s.size ≤ 1000) (hns : ¬ s.toList = []) (hz : 0 < s.size) (h45 : ((s[0]'hz).toNat : Int) = 45) (R : ByteArray) (hR : s.extract 1 s.size = R) (hRs : R.size ≤ 1000) (n : Nat) (hn : digN R.data.toList = n) (hn1 : n ≤ R.size) (Wh R2 : ByteArray) (hWh : R.extract 0 n = Wh) (hR2 : R.extract n R.size = R2) (hWs : Wh.size ≤ 1000) (hR2s : R2.size ≤ 1000) (hnWh : ¬ Wh.toList = []) (h1 : 1 < (Wh.size : Int)) (hzW : 0 < Wh.size) (h48 : ¬ ((Wh[0]'hzW).toNat : Int) = 48) (hnR2 : ¬ R2.toList = []) (hz2 : 0 < R2.size) (h46 : ((R2[0]'hz2).toNat : Int) = 46) (R3 : ByteArray) (hR3 : R2.extract 1 R2.size = R3) (hR3s : R3.size ≤ 1000) (k : Nat) (hk : digN R3.data.toList = k) (hk1 : k + 1 ≤ R2.size) (Fr E : ByteArray) (hFr : R2.extract 1 (1 + k) = Fr) (hE : R2.extract (1 + k) R2.size = E) (hFs : Fr.size ≤ 1000) (hEs : E.size ≤ 1000) (hnFr : ¬ Fr.toList = []) (hnE : ¬ E.toList = []) (hzE : 0 < E.size) (g1 : ((E[0]'hzE).toNat : Int) = 101) (F : ByteArray) (hF : E.extract 1 E.size = F) (hFz : F.size ≤ 1000) (hnF : ¬ F.toList = []) (hzF : 0 < F.size) (s1 : ¬ ((F[0]'hzF).toNat : Int) = 43) (s2 : ((F[0]'hzF).toNat : Int) = 45) (G : ByteArray) (hG : F.extract 1 F.size = G) (hGs : G.size ≤ 1000) (m : Nat) (hm : digN G.data.toList = m) (hnG : ¬ G.toList = []) (hb : m = G.size) :
    Calls Tryd.prog 30 #[.string s] w fun e w' => e = .returned (partsV (some (true, Wh, Fr, F))) ∧ w' = w := by
  have hies : s.toList.isEmpty = false := by simp [hns]
  have hieWh : Wh.toList.isEmpty = false := by simp [hnWh]
  have Hn := Lib.hid hn
  clear hn
  have hieR2 : R2.toList.isEmpty = false := by simp [hnR2]
  have hq1 : (1 : Int) ≤ 1 + (k : Int) := by omega
  have hq2 : (1 : Int) + (k : Int) ≤ (R2.size : Int) := by omega
  have Hk := Lib.hid hk
  clear hk
  have hieFr : Fr.toList.isEmpty = false := by simp [hnFr]
  have hieE : E.toList.isEmpty = false := by simp [hnE]
  have g3 : (((E[0]'hzE).toNat : Int) != 101) = false := by simp [g1]
  have hieF : F.toList.isEmpty = false := by simp [hnF]
  have Hm := Lib.hid hm
  clear hm
  have hieG : G.toList.isEmpty = false := by simp [hnG]
  subst hb
  go_enter Tryd.func30, Tryd.ntmps30
  go_wp2_with (go_at_call 47; refine (rrun_any _ _ (by omega)).mono ?_; rintro e w1 ⟨rfl, hw⟩; rw [hw]; clear hw; first | rw [Hn.out] | rw [Hk.out] | rw [Hm.out])
  all_goals first | (refine bodyPost_ret (by simp [results, Tryd.results30, go_sem]; try rfl) rfl ?_; exact ⟨rfl, rfl⟩) | (exfalso; simp_all; done) | (exfalso; omega)

set_option maxRecDepth 100000 in
set_option maxHeartbeats 2000000 in
theorem rparts_x0Edm2 (s : ByteArray) (w : World) (hs : s.size ≤ 1000) (hns : ¬ s.toList = []) (hz : 0 < s.size) (h45 : ((s[0]'hz).toNat : Int) = 45) (R : ByteArray) (hR : s.extract 1 s.size = R) (hRs : R.size ≤ 1000) (n : Nat) (hn : digN R.data.toList = n) (hn1 : n ≤ R.size) (Wh R2 : ByteArray) (hWh : R.extract 0 n = Wh) (hR2 : R.extract n R.size = R2) (hWs : Wh.size ≤ 1000) (hR2s : R2.size ≤ 1000) (hnWh : ¬ Wh.toList = []) (h1 : 1 < (Wh.size : Int)) (hzW : 0 < Wh.size) (h48 : ¬ ((Wh[0]'hzW).toNat : Int) = 48) (hnR2 : ¬ R2.toList = []) (hz2 : 0 < R2.size) (h46 : ((R2[0]'hz2).toNat : Int) = 46) (R3 : ByteArray) (hR3 : R2.extract 1 R2.size = R3) (hR3s : R3.size ≤ 1000) (k : Nat) (hk : digN R3.data.toList = k) (hk1 : k + 1 ≤ R2.size) (Fr E : ByteArray) (hFr : R2.extract 1 (1 + k) = Fr) (hE : R2.extract (1 + k) R2.size = E) (hFs : Fr.size ≤ 1000) (hEs : E.size ≤ 1000) (hnFr : ¬ Fr.toList = []) (hnE : ¬ E.toList = []) (hzE : 0 < E.size) (g0 : ¬ ((E[0]'hzE).toNat : Int) = 101) (g1 : ((E[0]'hzE).toNat : Int) = 69) (F : ByteArray) (hF : E.extract 1 E.size = F) (hFz : F.size ≤ 1000) (heF : F.toList = []) :
    Calls Tryd.prog 30 #[.string s] w fun e w' => e = .returned (partsV none) ∧ w' = w := by
  have hies : s.toList.isEmpty = false := by simp [hns]
  have hieWh : Wh.toList.isEmpty = false := by simp [hnWh]
  have Hn := Lib.hid hn
  clear hn
  have hieR2 : R2.toList.isEmpty = false := by simp [hnR2]
  have hq1 : (1 : Int) ≤ 1 + (k : Int) := by omega
  have hq2 : (1 : Int) + (k : Int) ≤ (R2.size : Int) := by omega
  have Hk := Lib.hid hk
  clear hk
  have hieFr : Fr.toList.isEmpty = false := by simp [hnFr]
  have hieE : E.toList.isEmpty = false := by simp [hnE]
  have g3 : (((E[0]'hzE).toNat : Int) != 101) = true := by simp [g0]
  have g4 : (((E[0]'hzE).toNat : Int) != 69) = false := by simp [g1]
  have hieF : F.toList.isEmpty = true := by simp [heF]
  go_enter Tryd.func30, Tryd.ntmps30
  go_wp2_with (go_at_call 47; refine (rrun_any _ _ (by omega)).mono ?_; rintro e w1 ⟨rfl, hw⟩; rw [hw]; clear hw; first | rw [Hn.out] | rw [Hk.out])
  all_goals first | (refine bodyPost_ret (by simp [results, Tryd.results30, go_sem]; try rfl) rfl ?_; exact ⟨rfl, rfl⟩) | (exfalso; simp_all; done) | (exfalso; omega)

set_option maxRecDepth 100000 in
set_option maxHeartbeats 2000000 in
theorem rparts_xbuEdm2 (s : ByteArray) (w : World) (hs : s.size ≤ 1000) (hns : ¬ s.toList = []) (hz : 0 < s.size) (h45 : ((s[0]'hz).toNat : Int) = 45) (R : ByteArray) (hR : s.extract 1 s.size = R) (hRs : R.size ≤ 1000) (n : Nat) (hn : digN R.data.toList = n) (hn1 : n ≤ R.size) (Wh R2 : ByteArray) (hWh : R.extract 0 n = Wh) (hR2 : R.extract n R.size = R2) (hWs : Wh.size ≤ 1000) (hR2s : R2.size ≤ 1000) (hnWh : ¬ Wh.toList = []) (h1 : 1 < (Wh.size : Int)) (hzW : 0 < Wh.size) (h48 : ¬ ((Wh[0]'hzW).toNat : Int) = 48) (hnR2 : ¬ R2.toList = []) (hz2 : 0 < R2.size) (h46 : ((R2[0]'hz2).toNat : Int) = 46) (R3 : ByteArray) (hR3 : R2.extract 1 R2.size = R3) (hR3s : R3.size ≤ 1000) (k : Nat) (hk : digN R3.data.toList = k) (hk1 : k + 1 ≤ R2.size) (Fr E : ByteArray) (hFr : R2.extract 1 (1 + k) = Fr) (hE : R2.extract (1 + k) R2.size = E) (hFs : Fr.size ≤ 1000) (hEs : E.size ≤ 1000) (hnFr : ¬ Fr.toList = []) (hnE : ¬ E.toList = []) (hzE : 0 < E.size) (g0 : ¬ ((E[0]'hzE).toNat : Int) = 101) (g1 : ((E[0]'hzE).toNat : Int) = 69) (F : ByteArray) (hF : E.extract 1 E.size = F) (hFz : F.size ≤ 1000) (hnF : ¬ F.toList = []) (hzF : 0 < F.size) (s1 : ¬ ((F[0]'hzF).toNat : Int) = 43) (s2 : ¬ ((F[0]'hzF).toNat : Int) = 45) (G : ByteArray) (hG : G = F) (hGs : G.size ≤ 1000) (m : Nat) (hm : digN G.data.toList = m) (hb : ¬ (m : Int) = (G.size : Int)) :
    Calls Tryd.prog 30 #[.string s] w fun e w' => e = .returned (partsV none) ∧ w' = w := by
  have hies : s.toList.isEmpty = false := by simp [hns]
  have hieWh : Wh.toList.isEmpty = false := by simp [hnWh]
  have Hn := Lib.hid hn
  clear hn
  have hieR2 : R2.toList.isEmpty = false := by simp [hnR2]
  have hq1 : (1 : Int) ≤ 1 + (k : Int) := by omega
  have hq2 : (1 : Int) + (k : Int) ≤ (R2.size : Int) := by omega
  have Hk := Lib.hid hk
  clear hk
  have hieFr : Fr.toList.isEmpty = false := by simp [hnFr]
  have hieE : E.toList.isEmpty = false := by simp [hnE]
  have g3 : (((E[0]'hzE).toNat : Int) != 101) = true := by simp [g0]
  have g4 : (((E[0]'hzE).toNat : Int) != 69) = false := by simp [g1]
  subst hG
  have hieG : G.toList.isEmpty = false := by simp [hnF]
  have Hm := Lib.hid hm
  clear hm
  go_enter Tryd.func30, Tryd.ntmps30
  go_wp2_with (go_at_call 47; refine (rrun_any _ _ (by omega)).mono ?_; rintro e w1 ⟨rfl, hw⟩; rw [hw]; clear hw; first | rw [Hn.out] | rw [Hk.out] | rw [Hm.out])
  all_goals first | (refine bodyPost_ret (by simp [results, Tryd.results30, go_sem]; try rfl) rfl ?_; exact ⟨rfl, rfl⟩) | (exfalso; simp_all; done) | (exfalso; omega)

set_option maxRecDepth 100000 in
set_option maxHeartbeats 2000000 in
theorem rparts_kuEdm2 (s : ByteArray) (w : World) (hs : s.size ≤ 1000) (hns : ¬ s.toList = []) (hz : 0 < s.size) (h45 : ((s[0]'hz).toNat : Int) = 45) (R : ByteArray) (hR : s.extract 1 s.size = R) (hRs : R.size ≤ 1000) (n : Nat) (hn : digN R.data.toList = n) (hn1 : n ≤ R.size) (Wh R2 : ByteArray) (hWh : R.extract 0 n = Wh) (hR2 : R.extract n R.size = R2) (hWs : Wh.size ≤ 1000) (hR2s : R2.size ≤ 1000) (hnWh : ¬ Wh.toList = []) (h1 : 1 < (Wh.size : Int)) (hzW : 0 < Wh.size) (h48 : ¬ ((Wh[0]'hzW).toNat : Int) = 48) (hnR2 : ¬ R2.toList = []) (hz2 : 0 < R2.size) (h46 : ((R2[0]'hz2).toNat : Int) = 46) (R3 : ByteArray) (hR3 : R2.extract 1 R2.size = R3) (hR3s : R3.size ≤ 1000) (k : Nat) (hk : digN R3.data.toList = k) (hk1 : k + 1 ≤ R2.size) (Fr E : ByteArray) (hFr : R2.extract 1 (1 + k) = Fr) (hE : R2.extract (1 + k) R2.size = E) (hFs : Fr.size ≤ 1000) (hEs : E.size ≤ 1000) (hnFr : ¬ Fr.toList = []) (hnE : ¬ E.toList = []) (hzE : 0 < E.size) (g0 : ¬ ((E[0]'hzE).toNat : Int) = 101) (g1 : ((E[0]'hzE).toNat : Int) = 69) (F : ByteArray) (hF : E.extract 1 E.size = F) (hFz : F.size ≤ 1000) (hnF : ¬ F.toList = []) (hzF : 0 < F.size) (s1 : ¬ ((F[0]'hzF).toNat : Int) = 43) (s2 : ¬ ((F[0]'hzF).toNat : Int) = 45) (G : ByteArray) (hG : G = F) (hGs : G.size ≤ 1000) (m : Nat) (hm : digN G.data.toList = m) (hb : m = G.size) :
    Calls Tryd.prog 30 #[.string s] w fun e w' => e = .returned (partsV (some (true, Wh, Fr, F))) ∧ w' = w := by
  have hies : s.toList.isEmpty = false := by simp [hns]
  have hieWh : Wh.toList.isEmpty = false := by simp [hnWh]
  have Hn := Lib.hid hn
  clear hn
  have hieR2 : R2.toList.isEmpty = false := by simp [hnR2]
  have hq1 : (1 : Int) ≤ 1 + (k : Int) := by omega
  have hq2 : (1 : Int) + (k : Int) ≤ (R2.size : Int) := by omega
  have Hk := Lib.hid hk
  clear hk
  have hieFr : Fr.toList.isEmpty = false := by simp [hnFr]
  have hieE : E.toList.isEmpty = false := by simp [hnE]
  have g3 : (((E[0]'hzE).toNat : Int) != 101) = true := by simp [g0]
  have g4 : (((E[0]'hzE).toNat : Int) != 69) = false := by simp [g1]
  subst hG
  have hieG : G.toList.isEmpty = false := by simp [hnF]
  have Hm := Lib.hid hm
  clear hm
  subst hb
  go_enter Tryd.func30, Tryd.ntmps30
  go_wp2_with (go_at_call 47; refine (rrun_any _ _ (by omega)).mono ?_; rintro e w1 ⟨rfl, hw⟩; rw [hw]; clear hw; first | rw [Hn.out] | rw [Hk.out] | rw [Hm.out])
  all_goals first | (refine bodyPost_ret (by simp [results, Tryd.results30, go_sem]; try rfl) rfl ?_; exact ⟨rfl, rfl⟩) | (exfalso; simp_all; done) | (exfalso; omega)

set_option maxRecDepth 100000 in
set_option maxHeartbeats 2000000 in
theorem rparts_xeaEdm2 (s : ByteArray) (w : World) (hs : s.size ≤ 1000) (hns : ¬ s.toList = []) (hz : 0 < s.size) (h45 : ((s[0]'hz).toNat : Int) = 45) (R : ByteArray) (hR : s.extract 1 s.size = R) (hRs : R.size ≤ 1000) (n : Nat) (hn : digN R.data.toList = n) (hn1 : n ≤ R.size) (Wh R2 : ByteArray) (hWh : R.extract 0 n = Wh) (hR2 : R.extract n R.size = R2) (hWs : Wh.size ≤ 1000) (hR2s : R2.size ≤ 1000) (hnWh : ¬ Wh.toList = []) (h1 : 1 < (Wh.size : Int)) (hzW : 0 < Wh.size) (h48 : ¬ ((Wh[0]'hzW).toNat : Int) = 48) (hnR2 : ¬ R2.toList = []) (hz2 : 0 < R2.size) (h46 : ((R2[0]'hz2).toNat : Int) = 46) (R3 : ByteArray) (hR3 : R2.extract 1 R2.size = R3) (hR3s : R3.size ≤ 1000) (k : Nat) (hk : digN R3.data.toList = k) (hk1 : k + 1 ≤ R2.size) (Fr E : ByteArray) (hFr : R2.extract 1 (1 + k) = Fr) (hE : R2.extract (1 + k) R2.size = E) (hFs : Fr.size ≤ 1000) (hEs : E.size ≤ 1000) (hnFr : ¬ Fr.toList = []) (hnE : ¬ E.toList = []) (hzE : 0 < E.size) (g0 : ¬ ((E[0]'hzE).toNat : Int) = 101) (g1 : ((E[0]'hzE).toNat : Int) = 69) (F : ByteArray) (hF : E.extract 1 E.size = F) (hFz : F.size ≤ 1000) (hnF : ¬ F.toList = []) (hzF : 0 < F.size) (s1 : ((F[0]'hzF).toNat : Int) = 43) (G : ByteArray) (hG : F.extract 1 F.size = G) (hGs : G.size ≤ 1000) (m : Nat) (hm : digN G.data.toList = m) (heG : G.toList = []) :
    Calls Tryd.prog 30 #[.string s] w fun e w' => e = .returned (partsV none) ∧ w' = w := by
  have hies : s.toList.isEmpty = false := by simp [hns]
  have hieWh : Wh.toList.isEmpty = false := by simp [hnWh]
  have Hn := Lib.hid hn
  clear hn
  have hieR2 : R2.toList.isEmpty = false := by simp [hnR2]
  have hq1 : (1 : Int) ≤ 1 + (k : Int) := by omega
  have hq2 : (1 : Int) + (k : Int) ≤ (R2.size : Int) := by omega
  have Hk := Lib.hid hk
  clear hk
  have hieFr : Fr.toList.isEmpty = false := by simp [hnFr]
  have hieE : E.toList.isEmpty = false := by simp [hnE]
  have g3 : (((E[0]'hzE).toNat : Int) != 101) = true := by simp [g0]
  have g4 : (((E[0]'hzE).toNat : Int) != 69) = false := by simp [g1]
  have hieF : F.toList.isEmpty = false := by simp [hnF]
  have Hm := Lib.hid hm
  clear hm
  have hieG : G.toList.isEmpty = true := by simp [heG]
  go_enter Tryd.func30, Tryd.ntmps30
  go_wp2_with (go_at_call 47; refine (rrun_any _ _ (by omega)).mono ?_; rintro e w1 ⟨rfl, hw⟩; rw [hw]; clear hw; first | rw [Hn.out] | rw [Hk.out] | rw [Hm.out])
  all_goals first | (refine bodyPost_ret (by simp [results, Tryd.results30, go_sem]; try rfl) rfl ?_; exact ⟨rfl, rfl⟩) | (exfalso; simp_all; done) | (exfalso; omega)

set_option maxRecDepth 100000 in
set_option maxHeartbeats 2000000 in
theorem rparts_xbaEdm2 (s : ByteArray) (w : World) (hs : s.size ≤ 1000) (hns : ¬ s.toList = []) (hz : 0 < s.size) (h45 : ((s[0]'hz).toNat : Int) = 45) (R : ByteArray) (hR : s.extract 1 s.size = R) (hRs : R.size ≤ 1000) (n : Nat) (hn : digN R.data.toList = n) (hn1 : n ≤ R.size) (Wh R2 : ByteArray) (hWh : R.extract 0 n = Wh) (hR2 : R.extract n R.size = R2) (hWs : Wh.size ≤ 1000) (hR2s : R2.size ≤ 1000) (hnWh : ¬ Wh.toList = []) (h1 : 1 < (Wh.size : Int)) (hzW : 0 < Wh.size) (h48 : ¬ ((Wh[0]'hzW).toNat : Int) = 48) (hnR2 : ¬ R2.toList = []) (hz2 : 0 < R2.size) (h46 : ((R2[0]'hz2).toNat : Int) = 46) (R3 : ByteArray) (hR3 : R2.extract 1 R2.size = R3) (hR3s : R3.size ≤ 1000) (k : Nat) (hk : digN R3.data.toList = k) (hk1 : k + 1 ≤ R2.size) (Fr E : ByteArray) (hFr : R2.extract 1 (1 + k) = Fr) (hE : R2.extract (1 + k) R2.size = E) (hFs : Fr.size ≤ 1000) (hEs : E.size ≤ 1000) (hnFr : ¬ Fr.toList = []) (hnE : ¬ E.toList = []) (hzE : 0 < E.size) (g0 : ¬ ((E[0]'hzE).toNat : Int) = 101) (g1 : ((E[0]'hzE).toNat : Int) = 69) (F : ByteArray) (hF : E.extract 1 E.size = F) (hFz : F.size ≤ 1000) (hnF : ¬ F.toList = []) (hzF : 0 < F.size) (s1 : ((F[0]'hzF).toNat : Int) = 43) (G : ByteArray) (hG : F.extract 1 F.size = G) (hGs : G.size ≤ 1000) (m : Nat) (hm : digN G.data.toList = m) (hnG : ¬ G.toList = []) (hb : ¬ (m : Int) = (G.size : Int)) :
    Calls Tryd.prog 30 #[.string s] w fun e w' => e = .returned (partsV none) ∧ w' = w := by
  have hies : s.toList.isEmpty = false := by simp [hns]
  have hieWh : Wh.toList.isEmpty = false := by simp [hnWh]
  have Hn := Lib.hid hn
  clear hn
  have hieR2 : R2.toList.isEmpty = false := by simp [hnR2]
  have hq1 : (1 : Int) ≤ 1 + (k : Int) := by omega
  have hq2 : (1 : Int) + (k : Int) ≤ (R2.size : Int) := by omega
  have Hk := Lib.hid hk
  clear hk
  have hieFr : Fr.toList.isEmpty = false := by simp [hnFr]
  have hieE : E.toList.isEmpty = false := by simp [hnE]
  have g3 : (((E[0]'hzE).toNat : Int) != 101) = true := by simp [g0]
  have g4 : (((E[0]'hzE).toNat : Int) != 69) = false := by simp [g1]
  have hieF : F.toList.isEmpty = false := by simp [hnF]
  have Hm := Lib.hid hm
  clear hm
  have hieG : G.toList.isEmpty = false := by simp [hnG]
  go_enter Tryd.func30, Tryd.ntmps30
  go_wp2_with (go_at_call 47; refine (rrun_any _ _ (by omega)).mono ?_; rintro e w1 ⟨rfl, hw⟩; rw [hw]; clear hw; first | rw [Hn.out] | rw [Hk.out] | rw [Hm.out])
  all_goals first | (refine bodyPost_ret (by simp [results, Tryd.results30, go_sem]; try rfl) rfl ?_; exact ⟨rfl, rfl⟩) | (exfalso; simp_all; done) | (exfalso; omega)

set_option maxRecDepth 100000 in
set_option maxHeartbeats 2000000 in
theorem rparts_kaEdm2 (s : ByteArray) (w : World) (hs : s.size ≤ 1000) (hns : ¬ s.toList = []) (hz : 0 < s.size) (h45 : ((s[0]'hz).toNat : Int) = 45) (R : ByteArray) (hR : s.extract 1 s.size = R) (hRs : R.size ≤ 1000) (n : Nat) (hn : digN R.data.toList = n) (hn1 : n ≤ R.size) (Wh R2 : ByteArray) (hWh : R.extract 0 n = Wh) (hR2 : R.extract n R.size = R2) (hWs : Wh.size ≤ 1000) (hR2s : R2.size ≤ 1000) (hnWh : ¬ Wh.toList = []) (h1 : 1 < (Wh.size : Int)) (hzW : 0 < Wh.size) (h48 : ¬ ((Wh[0]'hzW).toNat : Int) = 48) (hnR2 : ¬ R2.toList = []) (hz2 : 0 < R2.size) (h46 : ((R2[0]'hz2).toNat : Int) = 46) (R3 : ByteArray) (hR3 : R2.extract 1 R2.size = R3) (hR3s : R3.size ≤ 1000) (k : Nat) (hk : digN R3.data.toList = k) (hk1 : k + 1 ≤ R2.size) (Fr E : ByteArray) (hFr : R2.extract 1 (1 + k) = Fr) (hE : R2.extract (1 + k) R2.size = E) (hFs : Fr.size ≤ 1000) (hEs : E.size ≤ 1000) (hnFr : ¬ Fr.toList = []) (hnE : ¬ E.toList = []) (hzE : 0 < E.size) (g0 : ¬ ((E[0]'hzE).toNat : Int) = 101) (g1 : ((E[0]'hzE).toNat : Int) = 69) (F : ByteArray) (hF : E.extract 1 E.size = F) (hFz : F.size ≤ 1000) (hnF : ¬ F.toList = []) (hzF : 0 < F.size) (s1 : ((F[0]'hzF).toNat : Int) = 43) (G : ByteArray) (hG : F.extract 1 F.size = G) (hGs : G.size ≤ 1000) (m : Nat) (hm : digN G.data.toList = m) (hnG : ¬ G.toList = []) (hb : m = G.size) :
    Calls Tryd.prog 30 #[.string s] w fun e w' => e = .returned (partsV (some (true, Wh, Fr, F))) ∧ w' = w := by
  have hies : s.toList.isEmpty = false := by simp [hns]
  have hieWh : Wh.toList.isEmpty = false := by simp [hnWh]
  have Hn := Lib.hid hn
  clear hn
  have hieR2 : R2.toList.isEmpty = false := by simp [hnR2]
  have hq1 : (1 : Int) ≤ 1 + (k : Int) := by omega
  have hq2 : (1 : Int) + (k : Int) ≤ (R2.size : Int) := by omega
  have Hk := Lib.hid hk
  clear hk
  have hieFr : Fr.toList.isEmpty = false := by simp [hnFr]
  have hieE : E.toList.isEmpty = false := by simp [hnE]
  have g3 : (((E[0]'hzE).toNat : Int) != 101) = true := by simp [g0]
  have g4 : (((E[0]'hzE).toNat : Int) != 69) = false := by simp [g1]
  have hieF : F.toList.isEmpty = false := by simp [hnF]
  have Hm := Lib.hid hm
  clear hm
  have hieG : G.toList.isEmpty = false := by simp [hnG]
  subst hb
  go_enter Tryd.func30, Tryd.ntmps30
  go_wp2_with (go_at_call 47; refine (rrun_any _ _ (by omega)).mono ?_; rintro e w1 ⟨rfl, hw⟩; rw [hw]; clear hw; first | rw [Hn.out] | rw [Hk.out] | rw [Hm.out])
  all_goals first | (refine bodyPost_ret (by simp [results, Tryd.results30, go_sem]; try rfl) rfl ?_; exact ⟨rfl, rfl⟩) | (exfalso; simp_all; done) | (exfalso; omega)

set_option maxRecDepth 100000 in
set_option maxHeartbeats 2000000 in
theorem rparts_xebEdm2 (s : ByteArray) (w : World) (hs : s.size ≤ 1000) (hns : ¬ s.toList = []) (hz : 0 < s.size) (h45 : ((s[0]'hz).toNat : Int) = 45) (R : ByteArray) (hR : s.extract 1 s.size = R) (hRs : R.size ≤ 1000) (n : Nat) (hn : digN R.data.toList = n) (hn1 : n ≤ R.size) (Wh R2 : ByteArray) (hWh : R.extract 0 n = Wh) (hR2 : R.extract n R.size = R2) (hWs : Wh.size ≤ 1000) (hR2s : R2.size ≤ 1000) (hnWh : ¬ Wh.toList = []) (h1 : 1 < (Wh.size : Int)) (hzW : 0 < Wh.size) (h48 : ¬ ((Wh[0]'hzW).toNat : Int) = 48) (hnR2 : ¬ R2.toList = []) (hz2 : 0 < R2.size) (h46 : ((R2[0]'hz2).toNat : Int) = 46) (R3 : ByteArray) (hR3 : R2.extract 1 R2.size = R3) (hR3s : R3.size ≤ 1000) (k : Nat) (hk : digN R3.data.toList = k) (hk1 : k + 1 ≤ R2.size) (Fr E : ByteArray) (hFr : R2.extract 1 (1 + k) = Fr) (hE : R2.extract (1 + k) R2.size = E) (hFs : Fr.size ≤ 1000) (hEs : E.size ≤ 1000) (hnFr : ¬ Fr.toList = []) (hnE : ¬ E.toList = []) (hzE : 0 < E.size) (g0 : ¬ ((E[0]'hzE).toNat : Int) = 101) (g1 : ((E[0]'hzE).toNat : Int) = 69) (F : ByteArray) (hF : E.extract 1 E.size = F) (hFz : F.size ≤ 1000) (hnF : ¬ F.toList = []) (hzF : 0 < F.size) (s1 : ¬ ((F[0]'hzF).toNat : Int) = 43) (s2 : ((F[0]'hzF).toNat : Int) = 45) (G : ByteArray) (hG : F.extract 1 F.size = G) (hGs : G.size ≤ 1000) (m : Nat) (hm : digN G.data.toList = m) (heG : G.toList = []) :
    Calls Tryd.prog 30 #[.string s] w fun e w' => e = .returned (partsV none) ∧ w' = w := by
  have hies : s.toList.isEmpty = false := by simp [hns]
  have hieWh : Wh.toList.isEmpty = false := by simp [hnWh]
  have Hn := Lib.hid hn
  clear hn
  have hieR2 : R2.toList.isEmpty = false := by simp [hnR2]
  have hq1 : (1 : Int) ≤ 1 + (k : Int) := by omega
  have hq2 : (1 : Int) + (k : Int) ≤ (R2.size : Int) := by omega
  have Hk := Lib.hid hk
  clear hk
  have hieFr : Fr.toList.isEmpty = false := by simp [hnFr]
  have hieE : E.toList.isEmpty = false := by simp [hnE]
  have g3 : (((E[0]'hzE).toNat : Int) != 101) = true := by simp [g0]
  have g4 : (((E[0]'hzE).toNat : Int) != 69) = false := by simp [g1]
  have hieF : F.toList.isEmpty = false := by simp [hnF]
  have Hm := Lib.hid hm
  clear hm
  have hieG : G.toList.isEmpty = true := by simp [heG]
  go_enter Tryd.func30, Tryd.ntmps30
  go_wp2_with (go_at_call 47; refine (rrun_any _ _ (by omega)).mono ?_; rintro e w1 ⟨rfl, hw⟩; rw [hw]; clear hw; first | rw [Hn.out] | rw [Hk.out] | rw [Hm.out])
  all_goals first | (refine bodyPost_ret (by simp [results, Tryd.results30, go_sem]; try rfl) rfl ?_; exact ⟨rfl, rfl⟩) | (exfalso; simp_all; done) | (exfalso; omega)

set_option maxRecDepth 100000 in
set_option maxHeartbeats 2000000 in
theorem rparts_xbbEdm2 (s : ByteArray) (w : World) (hs : s.size ≤ 1000) (hns : ¬ s.toList = []) (hz : 0 < s.size) (h45 : ((s[0]'hz).toNat : Int) = 45) (R : ByteArray) (hR : s.extract 1 s.size = R) (hRs : R.size ≤ 1000) (n : Nat) (hn : digN R.data.toList = n) (hn1 : n ≤ R.size) (Wh R2 : ByteArray) (hWh : R.extract 0 n = Wh) (hR2 : R.extract n R.size = R2) (hWs : Wh.size ≤ 1000) (hR2s : R2.size ≤ 1000) (hnWh : ¬ Wh.toList = []) (h1 : 1 < (Wh.size : Int)) (hzW : 0 < Wh.size) (h48 : ¬ ((Wh[0]'hzW).toNat : Int) = 48) (hnR2 : ¬ R2.toList = []) (hz2 : 0 < R2.size) (h46 : ((R2[0]'hz2).toNat : Int) = 46) (R3 : ByteArray) (hR3 : R2.extract 1 R2.size = R3) (hR3s : R3.size ≤ 1000) (k : Nat) (hk : digN R3.data.toList = k) (hk1 : k + 1 ≤ R2.size) (Fr E : ByteArray) (hFr : R2.extract 1 (1 + k) = Fr) (hE : R2.extract (1 + k) R2.size = E) (hFs : Fr.size ≤ 1000) (hEs : E.size ≤ 1000) (hnFr : ¬ Fr.toList = []) (hnE : ¬ E.toList = []) (hzE : 0 < E.size) (g0 : ¬ ((E[0]'hzE).toNat : Int) = 101) (g1 : ((E[0]'hzE).toNat : Int) = 69) (F : ByteArray) (hF : E.extract 1 E.size = F) (hFz : F.size ≤ 1000) (hnF : ¬ F.toList = []) (hzF : 0 < F.size) (s1 : ¬ ((F[0]'hzF).toNat : Int) = 43) (s2 : ((F[0]'hzF).toNat : Int) = 45) (G : ByteArray) (hG : F.extract 1 F.size = G) (hGs : G.size ≤ 1000) (m : Nat) (hm : digN G.data.toList = m) (hnG : ¬ G.toList = []) (hb : ¬ (m : Int) = (G.size : Int)) :
    Calls Tryd.prog 30 #[.string s] w fun e w' => e = .returned (partsV none) ∧ w' = w := by
  have hies : s.toList.isEmpty = false := by simp [hns]
  have hieWh : Wh.toList.isEmpty = false := by simp [hnWh]
  have Hn := Lib.hid hn
  clear hn
  have hieR2 : R2.toList.isEmpty = false := by simp [hnR2]
  have hq1 : (1 : Int) ≤ 1 + (k : Int) := by omega
  have hq2 : (1 : Int) + (k : Int) ≤ (R2.size : Int) := by omega
  have Hk := Lib.hid hk
  clear hk
  have hieFr : Fr.toList.isEmpty = false := by simp [hnFr]
  have hieE : E.toList.isEmpty = false := by simp [hnE]
  have g3 : (((E[0]'hzE).toNat : Int) != 101) = true := by simp [g0]
  have g4 : (((E[0]'hzE).toNat : Int) != 69) = false := by simp [g1]
  have hieF : F.toList.isEmpty = false := by simp [hnF]
  have Hm := Lib.hid hm
  clear hm
  have hieG : G.toList.isEmpty = false := by simp [hnG]
  go_enter Tryd.func30, Tryd.ntmps30
  go_wp2_with (go_at_call 47; refine (rrun_any _ _ (by omega)).mono ?_; rintro e w1 ⟨rfl, hw⟩; rw [hw]; clear hw; first | rw [Hn.out] | rw [Hk.out] | rw [Hm.out])
  all_goals first | (refine bodyPost_ret (by simp [results, Tryd.results30, go_sem]; try rfl) rfl ?_; exact ⟨rfl, rfl⟩) | (exfalso; simp_all; done) | (exfalso; omega)

set_option maxRecDepth 100000 in
set_option maxHeartbeats 2000000 in
theorem rparts_kbEdm2 (s : ByteArray) (w : World) (hs : s.size ≤ 1000) (hns : ¬ s.toList = []) (hz : 0 < s.size) (h45 : ((s[0]'hz).toNat : Int) = 45) (R : ByteArray) (hR : s.extract 1 s.size = R) (hRs : R.size ≤ 1000) (n : Nat) (hn : digN R.data.toList = n) (hn1 : n ≤ R.size) (Wh R2 : ByteArray) (hWh : R.extract 0 n = Wh) (hR2 : R.extract n R.size = R2) (hWs : Wh.size ≤ 1000) (hR2s : R2.size ≤ 1000) (hnWh : ¬ Wh.toList = []) (h1 : 1 < (Wh.size : Int)) (hzW : 0 < Wh.size) (h48 : ¬ ((Wh[0]'hzW).toNat : Int) = 48) (hnR2 : ¬ R2.toList = []) (hz2 : 0 < R2.size) (h46 : ((R2[0]'hz2).toNat : Int) = 46) (R3 : ByteArray) (hR3 : R2.extract 1 R2.size = R3) (hR3s : R3.size ≤ 1000) (k : Nat) (hk : digN R3.data.toList = k) (hk1 : k + 1 ≤ R2.size) (Fr E : ByteArray) (hFr : R2.extract 1 (1 + k) = Fr) (hE : R2.extract (1 + k) R2.size = E) (hFs : Fr.size ≤ 1000) (hEs : E.size ≤ 1000) (hnFr : ¬ Fr.toList = []) (hnE : ¬ E.toList = []) (hzE : 0 < E.size) (g0 : ¬ ((E[0]'hzE).toNat : Int) = 101) (g1 : ((E[0]'hzE).toNat : Int) = 69) (F : ByteArray) (hF : E.extract 1 E.size = F) (hFz : F.size ≤ 1000) (hnF : ¬ F.toList = []) (hzF : 0 < F.size) (s1 : ¬ ((F[0]'hzF).toNat : Int) = 43) (s2 : ((F[0]'hzF).toNat : Int) = 45) (G : ByteArray) (hG : F.extract 1 F.size = G) (hGs : G.size ≤ 1000) (m : Nat) (hm : digN G.data.toList = m) (hnG : ¬ G.toList = []) (hb : m = G.size) :
    Calls Tryd.prog 30 #[.string s] w fun e w' => e = .returned (partsV (some (true, Wh, Fr, F))) ∧ w' = w := by
  have hies : s.toList.isEmpty = false := by simp [hns]
  have hieWh : Wh.toList.isEmpty = false := by simp [hnWh]
  have Hn := Lib.hid hn
  clear hn
  have hieR2 : R2.toList.isEmpty = false := by simp [hnR2]
  have hq1 : (1 : Int) ≤ 1 + (k : Int) := by omega
  have hq2 : (1 : Int) + (k : Int) ≤ (R2.size : Int) := by omega
  have Hk := Lib.hid hk
  clear hk
  have hieFr : Fr.toList.isEmpty = false := by simp [hnFr]
  have hieE : E.toList.isEmpty = false := by simp [hnE]
  have g3 : (((E[0]'hzE).toNat : Int) != 101) = true := by simp [g0]
  have g4 : (((E[0]'hzE).toNat : Int) != 69) = false := by simp [g1]
  have hieF : F.toList.isEmpty = false := by simp [hnF]
  have Hm := Lib.hid hm
  clear hm
  have hieG : G.toList.isEmpty = false := by simp [hnG]
  subst hb
  go_enter Tryd.func30, Tryd.ntmps30
  go_wp2_with (go_at_call 47; refine (rrun_any _ _ (by omega)).mono ?_; rintro e w1 ⟨rfl, hw⟩; rw [hw]; clear hw; first | rw [Hn.out] | rw [Hk.out] | rw [Hm.out])
  all_goals first | (refine bodyPost_ret (by simp [results, Tryd.results30, go_sem]; try rfl) rfl ?_; exact ⟨rfl, rfl⟩) | (exfalso; simp_all; done) | (exfalso; omega)
end Go.Proofs.YtkdejdmmgjibmaaDoor
