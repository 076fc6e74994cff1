/-
  dec.parse, walked case by case. No condition beside those that name the case.
  dec.parse, walked: it reads what the plain reader reads. No condition.
-/
import Derived.Test.YtffcpmohanhihaaGreatDoorJ2
import Derived.Handy
import Derived.Test.YtffcpmohanhihaaGreatDoorDecParseDJ
namespace Go.Proofs.YtffcpmohanhihaaGreatDoor
open Go.RowKit
set_option linter.unusedVariables false
set_option linter.unusedSimpArgs false

set_option maxRecDepth 100000 in
set_option maxHeartbeats 2000000 in
theorem parse_on (s : ByteArray) (w : World) (hs : s.size ≤ 400) (b : Bool) (R : ByteArray) (n : Nat) (hm : Lib.hasPrefix s.data.toList [45] = b) (hR : (⟨(Lib.trimPrefix s.data.toList [45]).toArray⟩ : ByteArray) = R) (hRs : R.size ≤ 400) (hn : digN R.data.toList = n) (hn1 : n ≤ R.size) (hn0 : 0 < n) (h00 : n ≤ 1 ∨ ∃ h : 0 < R.size, ¬ ((R[0]'h).toNat : Int) = 48) (Wh R2 : ByteArray) (hWh : R.extract 0 n = Wh) (hW1 : 1 ≤ Wh.size) (hWs : Wh.size ≤ 400) (hR2 : R.extract n R.size = R2) (hR2s : R2.size ≤ 400) (hd : Lib.hasPrefix R2.data.toList [46] = false) (PT E : ByteArray) (hPT : PT = ⟨#[]⟩) (hE : E = R2) (hE0 : ¬ E.toList = []) (hEs : E.size ≤ 400) (hz : 0 < E.size) (hz1 : ¬ ((E[0]'hz).toNat : Int) = 101) (hz2 : ¬ ((E[0]'hz).toNat : Int) = 69) :
    Calls Tryz.prog 157 #[.string s] w fun e w' => e = .returned (parseV none) ∧ Below w.heap.size w w' := by
  have HR := Lib.hid hR
  have Hm := Lib.hid hm
  have Hn := Lib.hid hn
  clear hR hm hn
  have H00 := Lib.hid h00
  have Hd := Lib.hid hd
  clear h00 hd
  subst hPT hE
  have hz3 : (((E[0]'hz).toNat : Int) != 101) = true := by simp [hz1]
  have hz4 : (((E[0]'hz).toNat : Int) != 69) = true := by simp [hz2]
  have hie : E.toList.isEmpty = false := by simp [hE0]
  go_enter Tryz.func157, Tryz.ntmps157
  go_wp2_with (first | (go_at_call 164; refine (Tryz.strings_CutPrefix _ _ _).mono ?_; rintro e w1 ⟨rfl, hw⟩; rw [hw]; clear hw; rw [HR.out, Hm.out]) | (go_at_call 165; refine (digits_any _ _ (by omega)).mono ?_; rintro e w1 ⟨rfl, hw⟩; rw [hw]; clear hw; rw [Hn.out]) | (go_at_call 166; refine (Tryz.strings_HasPrefix _ _ _).mono ?_; rintro e w1 ⟨rfl, hw⟩; rw [hw]; clear hw; rw [Hd.out]))
  all_goals first | (exfalso; rcases H00.out with h | ⟨h, h2⟩ <;> first | omega | (apply h2; assumption) | (apply h2; simp_all; done)) | (go_returns; exact ⟨rfl, by first | exact (Below.refl _ _).alloc (Nat.le_refl _) _ | exact new_below _ _ _⟩)

set_option maxRecDepth 100000 in
set_option maxHeartbeats 2000000 in
theorem parse_xn (s : ByteArray) (w : World) (hs : s.size ≤ 400) (b : Bool) (R : ByteArray) (n : Nat) (hm : Lib.hasPrefix s.data.toList [45] = b) (hR : (⟨(Lib.trimPrefix s.data.toList [45]).toArray⟩ : ByteArray) = R) (hRs : R.size ≤ 400) (hn : digN R.data.toList = n) (hn1 : n ≤ R.size) (hn0 : 0 < n) (h00 : n ≤ 1 ∨ ∃ h : 0 < R.size, ¬ ((R[0]'h).toNat : Int) = 48) (Wh R2 : ByteArray) (hWh : R.extract 0 n = Wh) (hW1 : 1 ≤ Wh.size) (hWs : Wh.size ≤ 400) (hR2 : R.extract n R.size = R2) (hR2s : R2.size ≤ 400) (hd : Lib.hasPrefix R2.data.toList [46] = false) (PT E : ByteArray) (hPT : PT = ⟨#[]⟩) (hE : E = R2) (hE0 : ¬ E.toList = []) (hEs : E.size ≤ 400) (hz : 0 < E.size) (he : ((E[0]'hz).toNat : Int) = 101 ∨ ((E[0]'hz).toNat : Int) = 69) (F : ByteArray) (hF1 : E.extract 1 E.size = F) (hFz : F.size ≤ 400) (hP : powerN F.data.toList = none) :
    Calls Tryz.prog 157 #[.string s] w fun e w' => e = .returned (parseV none) ∧ Below w.heap.size w w' := by
  have HR := Lib.hid hR
  have Hm := Lib.hid hm
  have Hn := Lib.hid hn
  clear hR hm hn
  have H00 := Lib.hid h00
  have Hd := Lib.hid hd
  clear h00 hd
  subst hPT hE
  have HEE := Lib.hid he
  clear he
  have HP := Lib.hid hP
  clear hP
  have hie : E.toList.isEmpty = false := by simp [hE0]
  go_enter Tryz.func157, Tryz.ntmps157
  go_wp2_with (first | (go_at_call 164; refine (Tryz.strings_CutPrefix _ _ _).mono ?_; rintro e w1 ⟨rfl, hw⟩; rw [hw]; clear hw; rw [HR.out, Hm.out]) | (go_at_call 165; refine (digits_any _ _ (by omega)).mono ?_; rintro e w1 ⟨rfl, hw⟩; rw [hw]; clear hw; rw [Hn.out]) | (go_at_call 166; refine (Tryz.strings_HasPrefix _ _ _).mono ?_; rintro e w1 ⟨rfl, hw⟩; rw [hw]; clear hw; rw [Hd.out]) | (go_at_call 167; refine (power_any _ _ (by omega)).mono ?_; rintro e wp ⟨rfl, hbp⟩; rw [HP.out]; have hrow := Lib.hid ((hbp.block w.heap.size (by simp)).trans (by first | exact heap_alloc_new _ _ | exact new_row _ _ _)); have hbp2 := Lib.hid (Below.trans (by first | exact (Below.refl w.heap.size w).alloc (Nat.le_refl _) _ | exact new_below _ _ _) (hbp.mono (by simp))); clear hbp) | (refine wpList_store_row rfl 203 _ _ rfl w.heap.size _ rfl rfl 203 _ hrow.out num_info rfl num_one ?_; intro w7 hbn hgn hon hsn; have hgn2 := Lib.hid hgn; have hbn2 := Lib.hid (hbp2.out.trans hbn); clear hbn hgn hon hsn))
  all_goals first | (exfalso; rcases H00.out with h | ⟨h, h2⟩ <;> first | omega | (apply h2; assumption) | (apply h2; simp_all; done)) | (exfalso; rcases HEE.out with h | h <;> first | contradiction | (simp_all; done)) | (exact bodyPost_ret (results_row_tmp rfl _ _ w.heap.size _ _ _ _ _ rfl rfl hgn2.out Tryz.underlying203 rfl num_info) rfl ⟨rfl, hbn2.out⟩)

set_option maxRecDepth 100000 in
set_option maxHeartbeats 2000000 in
theorem parse_en0 (s : ByteArray) (w : World) (hs : s.size ≤ 400) (b : Bool) (R : ByteArray) (n : Nat) (hm : Lib.hasPrefix s.data.toList [45] = b) (hR : (⟨(Lib.trimPrefix s.data.toList [45]).toArray⟩ : ByteArray) = R) (hRs : R.size ≤ 400) (hn : digN R.data.toList = n) (hn1 : n ≤ R.size) (hn0 : 0 < n) (h00 : n ≤ 1 ∨ ∃ h : 0 < R.size, ¬ ((R[0]'h).toNat : Int) = 48) (Wh R2 : ByteArray) (hWh : R.extract 0 n = Wh) (hW1 : 1 ≤ Wh.size) (hWs : Wh.size ≤ 400) (hR2 : R.extract n R.size = R2) (hR2s : R2.size ≤ 400) (hd : Lib.hasPrefix R2.data.toList [46] = false) (PT E : ByteArray) (hPT : PT = ⟨#[]⟩) (hE : E = R2) (hE0 : E.toList = []) (All Fi G : ByteArray) (hA : Wh ++ PT = All) (hAs : All.size ≤ 800) (hF : (⟨(Lib.trimLeftB All.data.toList 48).toArray⟩ : ByteArray) = Fi) (hFs : Fi.size ≤ All.size) (hG : (⟨(Lib.trimRightB Fi.data.toList 48).toArray⟩ : ByteArray) = G) (hFe : Fi.toList = []) :
    Calls Tryz.prog 157 #[.string s] w fun e w' => e = .returned (parseV (some (false, [], 0))) ∧ Below w.heap.size w w' := by
  have HR := Lib.hid hR
  have Hm := Lib.hid hm
  have Hn := Lib.hid hn
  clear hR hm hn
  have H00 := Lib.hid h00
  have Hd := Lib.hid hd
  clear h00 hd
  subst hPT hE
  have HF := Lib.hid hF
  have HG := Lib.hid hG
  clear hF hG
  have hfe : Fi.toList.isEmpty = true := by simp [hFe]
  have hie : E.toList.isEmpty = true := by simp [hE0]
  go_enter Tryz.func157, Tryz.ntmps157
  go_wp2_with (first | (go_at_call 164; refine (Tryz.strings_CutPrefix _ _ _).mono ?_; rintro e w1 ⟨rfl, hw⟩; rw [hw]; clear hw; rw [HR.out, Hm.out]) | (go_at_call 165; refine (digits_any _ _ (by omega)).mono ?_; rintro e w1 ⟨rfl, hw⟩; rw [hw]; clear hw; rw [Hn.out]) | (go_at_call 166; refine (Tryz.strings_HasPrefix _ _ _).mono ?_; rintro e w1 ⟨rfl, hw⟩; rw [hw]; clear hw; rw [Hd.out]) | (go_at_call 168; refine (Tryz.strings_TrimLeft_one _ 48 (by decide) _).mono ?_; rintro e w1 ⟨rfl, hw⟩; rw [hw]; clear hw; rw [HF.out]) | (go_at_call 169; refine (Tryz.strings_TrimRight_one _ 48 (by decide) _ (by omega)).mono ?_; rintro e w1 ⟨rfl, hw⟩; rw [hw]; clear hw; rw [HG.out]))
  all_goals first | (exfalso; rcases H00.out with h | ⟨h, h2⟩ <;> first | omega | (apply h2; assumption) | (apply h2; simp_all; done)) | (go_returns; exact ⟨rfl, by first | exact (Below.refl _ _).alloc (Nat.le_refl _) _ | exact new_below _ _ _⟩)

set_option maxRecDepth 100000 in
set_option maxHeartbeats 2000000 in
theorem parse_pn0 (s : ByteArray) (w : World) (hs : s.size ≤ 400) (b : Bool) (R : ByteArray) (n : Nat) (hm : Lib.hasPrefix s.data.toList [45] = b) (hR : (⟨(Lib.trimPrefix s.data.toList [45]).toArray⟩ : ByteArray) = R) (hRs : R.size ≤ 400) (hn : digN R.data.toList = n) (hn1 : n ≤ R.size) (hn0 : 0 < n) (h00 : n ≤ 1 ∨ ∃ h : 0 < R.size, ¬ ((R[0]'h).toNat : Int) = 48) (Wh R2 : ByteArray) (hWh : R.extract 0 n = Wh) (hW1 : 1 ≤ Wh.size) (hWs : Wh.size ≤ 400) (hR2 : R.extract n R.size = R2) (hR2s : R2.size ≤ 400) (hd : Lib.hasPrefix R2.data.toList [46] = false) (PT E : ByteArray) (hPT : PT = ⟨#[]⟩) (hE : E = R2) (hE0 : ¬ E.toList = []) (hEs : E.size ≤ 400) (hz : 0 < E.size) (he : ((E[0]'hz).toNat : Int) = 101 ∨ ((E[0]'hz).toNat : Int) = 69) (F : ByteArray) (hF1 : E.extract 1 E.size = F) (hFz : F.size ≤ 400) (q : Int) (hq1 : -100000 ≤ q) (hq2 : q ≤ 100000) (hP : powerN F.data.toList = some q) (All Fi G : ByteArray) (hA : Wh ++ PT = All) (hAs : All.size ≤ 800) (hF : (⟨(Lib.trimLeftB All.data.toList 48).toArray⟩ : ByteArray) = Fi) (hFs : Fi.size ≤ All.size) (hG : (⟨(Lib.trimRightB Fi.data.toList 48).toArray⟩ : ByteArray) = G) (hFe : Fi.toList = []) :
    Calls Tryz.prog 157 #[.string s] w fun e w' => e = .returned (parseV (some (false, [], 0))) ∧ Below w.heap.size w w' := by
  have HR := Lib.hid hR
  have Hm := Lib.hid hm
  have Hn := Lib.hid hn
  clear hR hm hn
  have H00 := Lib.hid h00
  have Hd := Lib.hid hd
  clear h00 hd
  subst hPT hE
  have HF := Lib.hid hF
  have HG := Lib.hid hG
  clear hF hG
  have HEE := Lib.hid he
  clear he
  have hfe : Fi.toList.isEmpty = true := by simp [hFe]
  have HP := Lib.hid hP
  clear hP
  have hie : E.toList.isEmpty = false := by simp [hE0]
  go_enter Tryz.func157, Tryz.ntmps157
  go_wp2_with (first | (go_at_call 164; refine (Tryz.strings_CutPrefix _ _ _).mono ?_; rintro e w1 ⟨rfl, hw⟩; rw [hw]; clear hw; rw [HR.out, Hm.out]) | (go_at_call 165; refine (digits_any _ _ (by omega)).mono ?_; rintro e w1 ⟨rfl, hw⟩; rw [hw]; clear hw; rw [Hn.out]) | (go_at_call 166; refine (Tryz.strings_HasPrefix _ _ _).mono ?_; rintro e w1 ⟨rfl, hw⟩; rw [hw]; clear hw; rw [Hd.out]) | (go_at_call 167; refine (power_any _ _ (by omega)).mono ?_; rintro e wp ⟨rfl, hbp⟩; rw [HP.out]; have hrow := Lib.hid ((hbp.block w.heap.size (by simp)).trans (by first | exact heap_alloc_new _ _ | exact new_row _ _ _)); have hbp2 := Lib.hid (Below.trans (by first | exact (Below.refl w.heap.size w).alloc (Nat.le_refl _) _ | exact new_below _ _ _) (hbp.mono (by simp))); clear hbp) | (refine wpList_store_row rfl 203 _ _ rfl w.heap.size _ rfl rfl 203 _ hrow.out num_info rfl num_one ?_; intro w7 hbn hgn hon hsn; have hgn2 := Lib.hid hgn; have hbn2 := Lib.hid (hbp2.out.trans hbn); clear hbn hgn hon hsn) | (go_at_call 168; refine (Tryz.strings_TrimLeft_one _ 48 (by decide) _).mono ?_; rintro e w1 ⟨rfl, hw⟩; rw [hw]; clear hw; rw [HF.out]) | (go_at_call 169; refine (Tryz.strings_TrimRight_one _ 48 (by decide) _ (by omega)).mono ?_; rintro e w1 ⟨rfl, hw⟩; rw [hw]; clear hw; rw [HG.out]))
  all_goals first | (exfalso; rcases H00.out with h | ⟨h, h2⟩ <;> first | omega | (apply h2; assumption) | (apply h2; simp_all; done)) | (exfalso; rcases HEE.out with h | h <;> first | contradiction | (simp_all; done)) | (exact bodyPost_ret (results_row_tmp rfl _ _ w.heap.size _ _ _ _ _ rfl rfl hgn2.out Tryz.underlying203 rfl num_info) rfl ⟨rfl, hbn2.out⟩)

set_option maxRecDepth 100000 in
set_option maxHeartbeats 2000000 in
theorem parse_en1 (s : ByteArray) (w : World) (hs : s.size ≤ 400) (b : Bool) (R : ByteArray) (n : Nat) (hm : Lib.hasPrefix s.data.toList [45] = b) (hR : (⟨(Lib.trimPrefix s.data.toList [45]).toArray⟩ : ByteArray) = R) (hRs : R.size ≤ 400) (hn : digN R.data.toList = n) (hn1 : n ≤ R.size) (hn0 : 0 < n) (h00 : n ≤ 1 ∨ ∃ h : 0 < R.size, ¬ ((R[0]'h).toNat : Int) = 48) (Wh R2 : ByteArray) (hWh : R.extract 0 n = Wh) (hW1 : 1 ≤ Wh.size) (hWs : Wh.size ≤ 400) (hR2 : R.extract n R.size = R2) (hR2s : R2.size ≤ 400) (hd : Lib.hasPrefix R2.data.toList [46] = false) (PT E : ByteArray) (hPT : PT = ⟨#[]⟩) (hE : E = R2) (hE0 : E.toList = []) (All Fi G : ByteArray) (hA : Wh ++ PT = All) (hAs : All.size ≤ 800) (hF : (⟨(Lib.trimLeftB All.data.toList 48).toArray⟩ : ByteArray) = Fi) (hFs : Fi.size ≤ All.size) (hG : (⟨(Lib.trimRightB Fi.data.toList 48).toArray⟩ : ByteArray) = G) (hFe : ¬ Fi.toList = []) :
    Calls Tryz.prog 157 #[.string s] w fun e w' => e = .returned (parseV (some (b, G.data.toList, ((Wh.size : Int) - 1 - ((All.size : Int) - (Fi.size : Int)))))) ∧ Below w.heap.size w w' := by
  have HR := Lib.hid hR
  have Hm := Lib.hid hm
  have Hn := Lib.hid hn
  clear hR hm hn
  have H00 := Lib.hid h00
  have Hd := Lib.hid hd
  clear h00 hd
  subst hPT hE
  have HF := Lib.hid hF
  have HG := Lib.hid hG
  clear hF hG
  have hfe : Fi.toList.isEmpty = false := by simp [hFe]
  have hie : E.toList.isEmpty = true := by simp [hE0]
  go_enter Tryz.func157, Tryz.ntmps157
  go_wp2_with (first | (go_at_call 164; refine (Tryz.strings_CutPrefix _ _ _).mono ?_; rintro e w1 ⟨rfl, hw⟩; rw [hw]; clear hw; rw [HR.out, Hm.out]) | (go_at_call 165; refine (digits_any _ _ (by omega)).mono ?_; rintro e w1 ⟨rfl, hw⟩; rw [hw]; clear hw; rw [Hn.out]) | (go_at_call 166; refine (Tryz.strings_HasPrefix _ _ _).mono ?_; rintro e w1 ⟨rfl, hw⟩; rw [hw]; clear hw; rw [Hd.out]) | (go_at_call 168; refine (Tryz.strings_TrimLeft_one _ 48 (by decide) _).mono ?_; rintro e w1 ⟨rfl, hw⟩; rw [hw]; clear hw; rw [HF.out]) | (go_at_call 169; refine (Tryz.strings_TrimRight_one _ 48 (by decide) _ (by omega)).mono ?_; rintro e w1 ⟨rfl, hw⟩; rw [hw]; clear hw; rw [HG.out]))
  all_goals first | (exfalso; rcases H00.out with h | ⟨h, h2⟩ <;> first | omega | (apply h2; assumption) | (apply h2; simp_all; done)) | (go_returns; exact ⟨rfl, by first | exact (Below.refl _ _).alloc (Nat.le_refl _) _ | exact new_below _ _ _⟩)

set_option maxRecDepth 100000 in
set_option maxHeartbeats 2000000 in
theorem parse_pn1 (s : ByteArray) (w : World) (hs : s.size ≤ 400) (b : Bool) (R : ByteArray) (n : Nat) (hm : Lib.hasPrefix s.data.toList [45] = b) (hR : (⟨(Lib.trimPrefix s.data.toList [45]).toArray⟩ : ByteArray) = R) (hRs : R.size ≤ 400) (hn : digN R.data.toList = n) (hn1 : n ≤ R.size) (hn0 : 0 < n) (h00 : n ≤ 1 ∨ ∃ h : 0 < R.size, ¬ ((R[0]'h).toNat : Int) = 48) (Wh R2 : ByteArray) (hWh : R.extract 0 n = Wh) (hW1 : 1 ≤ Wh.size) (hWs : Wh.size ≤ 400) (hR2 : R.extract n R.size = R2) (hR2s : R2.size ≤ 400) (hd : Lib.hasPrefix R2.data.toList [46] = false) (PT E : ByteArray) (hPT : PT = ⟨#[]⟩) (hE : E = R2) (hE0 : ¬ E.toList = []) (hEs : E.size ≤ 400) (hz : 0 < E.size) (he : ((E[0]'hz).toNat : Int) = 101 ∨ ((E[0]'hz).toNat : Int) = 69) (F : ByteArray) (hF1 : E.extract 1 E.size = F) (hFz : F.size ≤ 400) (q : Int) (hq1 : -100000 ≤ q) (hq2 : q ≤ 100000) (hP : powerN F.data.toList = some q) (All Fi G : ByteArray) (hA : Wh ++ PT = All) (hAs : All.size ≤ 800) (hF : (⟨(Lib.trimLeftB All.data.toList 48).toArray⟩ : ByteArray) = Fi) (hFs : Fi.size ≤ All.size) (hG : (⟨(Lib.trimRightB Fi.data.toList 48).toArray⟩ : ByteArray) = G) (hFe : ¬ Fi.toList = []) :
    Calls Tryz.prog 157 #[.string s] w fun e w' => e = .returned (parseV (some (b, G.data.toList, q + ((Wh.size : Int) - 1 - ((All.size : Int) - (Fi.size : Int)))))) ∧ Below w.heap.size w w' := by
  have HR := Lib.hid hR
  have Hm := Lib.hid hm
  have Hn := Lib.hid hn
  clear hR hm hn
  have H00 := Lib.hid h00
  have Hd := Lib.hid hd
  clear h00 hd
  subst hPT hE
  have HF := Lib.hid hF
  have HG := Lib.hid hG
  clear hF hG
  have HEE := Lib.hid he
  clear he
  have hfe : Fi.toList.isEmpty = false := by simp [hFe]
  have HP := Lib.hid hP
  clear hP
  have hie : E.toList.isEmpty = false := by simp [hE0]
  go_enter Tryz.func157, Tryz.ntmps157
  go_wp2_with (first | (go_at_call 164; refine (Tryz.strings_CutPrefix _ _ _).mono ?_; rintro e w1 ⟨rfl, hw⟩; rw [hw]; clear hw; rw [HR.out, Hm.out]) | (go_at_call 165; refine (digits_any _ _ (by omega)).mono ?_; rintro e w1 ⟨rfl, hw⟩; rw [hw]; clear hw; rw [Hn.out]) | (go_at_call 166; refine (Tryz.strings_HasPrefix _ _ _).mono ?_; rintro e w1 ⟨rfl, hw⟩; rw [hw]; clear hw; rw [Hd.out]) | (go_at_call 167; refine (power_any _ _ (by omega)).mono ?_; rintro e wp ⟨rfl, hbp⟩; rw [HP.out]; have hrow := Lib.hid ((hbp.block w.heap.size (by simp)).trans (by first | exact heap_alloc_new _ _ | exact new_row _ _ _)); have hbp2 := Lib.hid (Below.trans (by first | exact (Below.refl w.heap.size w).alloc (Nat.le_refl _) _ | exact new_below _ _ _) (hbp.mono (by simp))); clear hbp) | (refine wpList_store_row rfl 203 _ _ rfl w.heap.size _ rfl rfl 203 _ hrow.out num_info rfl num_one ?_; intro w7 hbn hgn hon hsn; have hgn2 := Lib.hid hgn; have hbn2 := Lib.hid (hbp2.out.trans hbn); clear hbn hgn hon hsn) | (go_at_call 168; refine (Tryz.strings_TrimLeft_one _ 48 (by decide) _).mono ?_; rintro e w1 ⟨rfl, hw⟩; rw [hw]; clear hw; rw [HF.out]) | (go_at_call 169; refine (Tryz.strings_TrimRight_one _ 48 (by decide) _ (by omega)).mono ?_; rintro e w1 ⟨rfl, hw⟩; rw [hw]; clear hw; rw [HG.out]))
  all_goals first | (exfalso; rcases H00.out with h | ⟨h, h2⟩ <;> first | omega | (apply h2; assumption) | (apply h2; simp_all; done)) | (exfalso; rcases HEE.out with h | h <;> first | contradiction | (simp_all; done)) | (exact bodyPost_ret (results_row_tmp rfl _ _ w.heap.size _ _ _ _ _ rfl rfl hgn2.out Tryz.underlying203 rfl num_info) rfl ⟨rfl, hbn2.out⟩)


end Go.Proofs.YtffcpmohanhihaaGreatDoor
namespace Go.Proofs.YtffcpmohanhihaaGreatDoor
open Go.RowKit
set_option linter.unusedVariables false
set_option linter.unusedSimpArgs false
theorem pwAcc_le {v a : Nat} {l : List UInt8} (hv : v ≤ 100000) (h : pwAcc v l = some a) : a ≤ 100000 := by
  induction l generalizing v with
  | nil => simp [pwAcc] at h; omega
  | cons c l ih =>
    unfold pwAcc at h
    split at h
    · cases h
    · exact ih (by omega) h
theorem powerN_range {l : List UInt8} {q : Int} (h : powerN l = some q) : -100000 ≤ q ∧ q ≤ 100000 := by
  unfold powerN at h
  split at h
  · cases h
  · cases hp : pwAcc 0 (signed l) with
    | none => rw [hp] at h; cases h
    | some a =>
      rw [hp] at h
      have := pwAcc_le (by omega) hp
      simp at h
      split at h <;> omega
theorem mk_list (l : List UInt8) : (⟨l.toArray⟩ : ByteArray).data.toList = l := by simp
theorem ba_head {E : ByteArray} (hz : 0 < E.size) : E.data.toList = (E[0]'hz) :: (E.extract 1 E.size).data.toList := by
  rw [extract1]
  have h : 0 < E.data.toList.length := by rw [← Lib.size_eq]; exact hz
  cases hl : E.data.toList with
  | nil => rw [hl] at h; simp at h
  | cons c l =>
    have h2 : E.data.toList[0]? = some (E[0]'hz) := by rw [List.getElem?_eq_getElem h]; rfl
    rw [hl] at h2
    simp at h2
    rw [h2]; rfl
theorem ba_pos {E : ByteArray} (h : ¬ E.toList = []) : 0 < E.size := by
  rw [Lib.toList_data] at h
  rw [Lib.size_eq]
  exact List.length_pos_iff.2 h
theorem byte_is {c : UInt8} {k : Nat} (hk : k < 256) : ((c.toNat : Int) = (k : Int)) ↔ c = UInt8.ofNat k := by
  constructor
  · intro h
    have h2 : c.toNat = k := by omega
    exact UInt8.toNat_inj.1 (by rw [h2]; simp; omega)
  · intro h; subst h; simp; omega
theorem ba_append (a b : ByteArray) : (a ++ b).data.toList = a.data.toList ++ b.data.toList := by simp
theorem trimLeftB_le (l : List UInt8) (c : UInt8) : (Lib.trimLeftB l c).length ≤ l.length := by unfold Lib.trimLeftB; exact (List.dropWhile_suffix _).length_le
theorem parse_any (s : ByteArray) (w : World) :
    Calls Tryz.prog 157 #[.string s] w fun e w' => e = .returned (parseV (parseN s.data.toList)) ∧ Below w.heap.size w w' := by
  have hl : s.data.toList.length = s.size := (Lib.size_eq s).symm
  by_cases hs : ¬ s.size ≤ 400
  · have hN : parseN s.data.toList = none := by unfold parseN; rw [if_pos (by omega)]
    rw [hN]; exact parse_long s w (by omega)
  have hs : s.size ≤ 400 := by omega
  obtain ⟨b, hm⟩ : ∃ b, Lib.hasPrefix s.data.toList [45] = b := ⟨_, rfl⟩
  obtain ⟨R, hR⟩ : ∃ R : ByteArray, (⟨(Lib.trimPrefix s.data.toList [45]).toArray⟩ : ByteArray) = R := ⟨_, rfl⟩
  have hRl : Lib.trimPrefix s.data.toList [45] = R.data.toList := by rw [← hR]
  have hRs : R.size ≤ 400 := by rw [Lib.size_eq, ← hRl]; exact Nat.le_trans (Lib.trimPrefix_le _ _) (by omega)
  obtain ⟨n, hn⟩ : ∃ n, digN R.data.toList = n := ⟨_, rfl⟩
  have hn1 : n ≤ R.size := by rw [← hn, Lib.size_eq]; exact digN_le _
  have hP0 : parseN s.data.toList = if n = 0 ∨ (1 < n ∧ R.data.toList.head? = some 48) then none else (partN (R.data.toList.drop n)).bind fun pr => (expN pr.2).map fun exp => normN b (R.data.toList.take n) pr.1 exp := by
    unfold parseN; rw [if_neg (by omega), hRl, hn, hm]
  by_cases h0 : n = 0
  · rw [hP0, if_pos (.inl h0)]; exact parse_zero s w hs b R n hm hR hRs hn hn1 h0
  by_cases hlead : 1 < n ∧ R.data.toList.head? = some 48
  · have hz : 0 < R.size := by omega
    rw [hP0, if_pos (.inr hlead)]
    refine parse_lead s w hs b R n hm hR hRs hn hn1 hlead.1 hz ?_
    have h2 := hlead.2
    rw [ba_head hz] at h2
    simp at h2
    exact (byte_is (k := 48) (by decide)).2 h2
  have hP1 := hP0
  rw [if_neg (by intro h; rcases h with h | h; exact h0 h; exact hlead h)] at hP1
  have hn0 : 0 < n := Nat.pos_of_ne_zero h0
  have h00 : n ≤ 1 ∨ ∃ h : 0 < R.size, ¬ ((R[0]'h).toNat : Int) = 48 := by
    by_cases h1 : n ≤ 1
    · exact .inl h1
    · have hz : 0 < R.size := by omega
      refine .inr ⟨hz, fun h => hlead ⟨by omega, ?_⟩⟩
      rw [ba_head hz, (byte_is (k := 48) (by decide)).1 h]; rfl
  obtain ⟨Wh, hWh⟩ : ∃ Wh, R.extract 0 n = Wh := ⟨_, rfl⟩
  obtain ⟨R2, hR2⟩ : ∃ R2, R.extract n R.size = R2 := ⟨_, rfl⟩
  have hWl : R.data.toList.take n = Wh.data.toList := by rw [← hWh, Lib.extract_data]; simp
  have hWlen : Wh.size = n := by rw [Lib.size_eq, ← hWl, List.length_take, ← Lib.size_eq]; omega
  have hW1 : 1 ≤ Wh.size := by omega
  have hWs : Wh.size ≤ 400 := by omega
  have hR2l : R.data.toList.drop n = R2.data.toList := by rw [← hR2, Lib.extract_data, List.take_of_length_le (by rw [List.length_drop, Lib.size_eq]; omega)]
  have hR2s : R2.size ≤ 400 := by rw [Lib.size_eq, ← hR2l, List.length_drop, ← Lib.size_eq]; omega
  rw [hWl, hR2l] at hP1
  cases hd : Lib.hasPrefix R2.data.toList [46]
  · obtain ⟨PT, hPT⟩ : ∃ PT : ByteArray, PT = ⟨#[]⟩ := ⟨_, rfl⟩
    obtain ⟨E, hE⟩ : ∃ E, E = R2 := ⟨_, rfl⟩
    have hPTs : PT.size ≤ 400 := by rw [hPT]; decide
    have hEs : E.size ≤ 400 := by rw [hE]; exact hR2s
    have hN : parseN s.data.toList = (expN E.data.toList).map fun exp => normN b Wh.data.toList PT.data.toList exp := by
      rw [hP1, hE, hPT]; unfold partN; rw [hd]; rfl
    obtain ⟨All, hA⟩ : ∃ All, Wh ++ PT = All := ⟨_, rfl⟩
    have hAl : All.data.toList = Wh.data.toList ++ PT.data.toList := by rw [← hA]; exact ba_append _ _
    have hAs : All.size ≤ 800 := by rw [Lib.size_eq, hAl, List.length_append, ← Lib.size_eq, ← Lib.size_eq]; omega
    obtain ⟨Fi, hF⟩ : ∃ Fi : ByteArray, (⟨(Lib.trimLeftB All.data.toList 48).toArray⟩ : ByteArray) = Fi := ⟨_, rfl⟩
    have hFl : Fi.data.toList = Lib.trimLeftB All.data.toList 48 := by rw [← hF]
    have hFs : Fi.size ≤ All.size := by rw [Lib.size_eq, hFl, Lib.size_eq]; exact trimLeftB_le _ _
    obtain ⟨G, hG⟩ : ∃ G : ByteArray, (⟨(Lib.trimRightB Fi.data.toList 48).toArray⟩ : ByteArray) = G := ⟨_, rfl⟩
    have hGl : G.data.toList = Lib.trimRightB Fi.data.toList 48 := by rw [← hG]
    have hX0 : Fi.toList = [] → ∀ exp, normN b Wh.data.toList PT.data.toList exp = (false, [], 0) := fun h exp => by
      unfold normN; rw [← hAl, ← hFl, if_pos (by rw [← Lib.toList_data]; exact h)]
    have hX1 : ¬ Fi.toList = [] → ∀ exp, normN b Wh.data.toList PT.data.toList exp = (b, G.data.toList, exp + ((Wh.size : Int) - 1 - ((All.size : Int) - (Fi.size : Int)))) := fun h exp => by
      unfold normN; rw [← hAl, ← hFl, if_neg (by rw [← Lib.toList_data]; exact h), ← hGl, Lib.size_eq Wh, Lib.size_eq All, Lib.size_eq Fi]
    by_cases hE0 : E.toList = []
    · have hx : expN E.data.toList = some 0 := by rw [← Lib.toList_data, hE0]; rfl
      rw [hN, hx, Option.map_some]
      by_cases hFe : Fi.toList = []
      · rw [hX0 hFe]; exact parse_en0 s w hs b R n hm hR hRs hn hn1 hn0 h00 Wh R2 hWh hW1 hWs hR2 hR2s hd PT E hPT hE hE0 All Fi G hA hAs hF hFs hG hFe
      · rw [hX1 hFe, Int.zero_add]; exact parse_en1 s w hs b R n hm hR hRs hn hn1 hn0 h00 Wh R2 hWh hW1 hWs hR2 hR2s hd PT E hPT hE hE0 All Fi G hA hAs hF hFs hG hFe
    · have hz := ba_pos hE0
      have hEl := ba_head hz
      by_cases he : ((E[0]'hz).toNat : Int) = 101 ∨ ((E[0]'hz).toNat : Int) = 69
      · obtain ⟨F, hF1⟩ : ∃ F, E.extract 1 E.size = F := ⟨_, rfl⟩
        have hFz : F.size ≤ 400 := by rw [← hF1]; exact Nat.le_trans (extract1_size E) hEs
        have hx : expN E.data.toList = powerN F.data.toList := by
          rw [hEl, hF1]
          exact if_pos (he.imp (byte_is (k := 101) (by decide)).1 (byte_is (k := 69) (by decide)).1)
        rw [hN, hx]
        cases hP : powerN F.data.toList with
        | none => exact parse_xn s w hs b R n hm hR hRs hn hn1 hn0 h00 Wh R2 hWh hW1 hWs hR2 hR2s hd PT E hPT hE hE0 hEs hz he F hF1 hFz hP
        | some q =>
          obtain ⟨hq1, hq2⟩ := powerN_range hP
          rw [Option.map_some]
          by_cases hFe : Fi.toList = []
          · rw [hX0 hFe]; exact parse_pn0 s w hs b R n hm hR hRs hn hn1 hn0 h00 Wh R2 hWh hW1 hWs hR2 hR2s hd PT E hPT hE hE0 hEs hz he F hF1 hFz q hq1 hq2 hP All Fi G hA hAs hF hFs hG hFe
          · rw [hX1 hFe]; exact parse_pn1 s w hs b R n hm hR hRs hn hn1 hn0 h00 Wh R2 hWh hW1 hWs hR2 hR2s hd PT E hPT hE hE0 hEs hz he F hF1 hFz q hq1 hq2 hP All Fi G hA hAs hF hFs hG hFe
      · have hx : expN E.data.toList = none := by
          rw [hEl]
          exact if_neg (fun h => he (h.imp (byte_is (k := 101) (by decide)).2 (byte_is (k := 69) (by decide)).2))
        rw [hN, hx]
        exact parse_on s w hs b R n hm hR hRs hn hn1 hn0 h00 Wh R2 hWh hW1 hWs hR2 hR2s hd PT E hPT hE hE0 hEs hz (fun h => he (.inl h)) (fun h => he (.inr h))
  · have hR2p := prefix_pos hd
    obtain ⟨R3, hR3⟩ : ∃ R3, R2.extract 1 R2.size = R3 := ⟨_, rfl⟩
    have hR3l : R2.data.toList.drop 1 = R3.data.toList := by rw [← hR3]; exact (extract1 R2).symm
    have hR3s : R3.size ≤ 400 := by rw [← hR3]; exact Nat.le_trans (extract1_size R2) hR2s
    have hR3n : R3.size = R2.size - 1 := by rw [Lib.size_eq, ← hR3l, List.length_drop, ← Lib.size_eq]
    obtain ⟨k, hk⟩ : ∃ k, digN R3.data.toList = k := ⟨_, rfl⟩
    by_cases hk0 : k = 0
    · have hN : parseN s.data.toList = none := by
        rw [hP1]; unfold partN; rw [hd, if_pos rfl, hR3l, hk, if_pos hk0]; rfl
      rw [hN]
      subst hk0
      exact parse_dotfail s w hs b R n hm hR hRs hn hn1 hn0 h00 Wh R2 hWh hW1 hWs hR2 hR2s hd hR2p R3 hR3 hR3s hk
    have hk1 : k + 1 ≤ R2.size := by
      have := digN_le R3.data.toList
      rw [hk, ← Lib.size_eq] at this
      omega
    have hkp : 0 < k := Nat.pos_of_ne_zero hk0
    obtain ⟨PT, hPT⟩ : ∃ PT, R2.extract 1 (k + 1) = PT := ⟨_, rfl⟩
    obtain ⟨E, hE⟩ : ∃ E, R2.extract (k + 1) R2.size = E := ⟨_, rfl⟩
    have hPl : R3.data.toList.take k = PT.data.toList := by rw [← hPT, Lib.extract_data, hR3l]; rfl
    have hEl0 : R2.data.toList.drop (k + 1) = E.data.toList := by rw [← hE, Lib.extract_data, List.take_of_length_le (by rw [List.length_drop, Lib.size_eq]; omega)]
    have hPTs : PT.size ≤ 400 := by rw [Lib.size_eq, ← hPl, List.length_take]; have := Lib.size_eq R3; omega
    have hEs : E.size ≤ 400 := by rw [Lib.size_eq, ← hEl0, List.length_drop, ← Lib.size_eq]; omega
    have hN : parseN s.data.toList = (expN E.data.toList).map fun exp => normN b Wh.data.toList PT.data.toList exp := by
      rw [hP1]; unfold partN; rw [hd, if_pos rfl, hR3l, hk, if_neg hk0, hPl, hEl0]; rfl
    obtain ⟨All, hA⟩ : ∃ All, Wh ++ PT = All := ⟨_, rfl⟩
    have hAl : All.data.toList = Wh.data.toList ++ PT.data.toList := by rw [← hA]; exact ba_append _ _
    have hAs : All.size ≤ 800 := by rw [Lib.size_eq, hAl, List.length_append, ← Lib.size_eq, ← Lib.size_eq]; omega
    obtain ⟨Fi, hF⟩ : ∃ Fi : ByteArray, (⟨(Lib.trimLeftB All.data.toList 48).toArray⟩ : ByteArray) = Fi := ⟨_, rfl⟩
    have hFl : Fi.data.toList = Lib.trimLeftB All.data.toList 48 := by rw [← hF]
    have hFs : Fi.size ≤ All.size := by rw [Lib.size_eq, hFl, Lib.size_eq]; exact trimLeftB_le _ _
    obtain ⟨G, hG⟩ : ∃ G : ByteArray, (⟨(Lib.trimRightB Fi.data.toList 48).toArray⟩ : ByteArray) = G := ⟨_, rfl⟩
    have hGl : G.data.toList = Lib.trimRightB Fi.data.toList 48 := by rw [← hG]
    have hX0 : Fi.toList = [] → ∀ exp, normN b Wh.data.toList PT.data.toList exp = (false, [], 0) := fun h exp => by
      unfold normN; rw [← hAl, ← hFl, if_pos (by rw [← Lib.toList_data]; exact h)]
    have hX1 : ¬ Fi.toList = [] → ∀ exp, normN b Wh.data.toList PT.data.toList exp = (b, G.data.toList, exp + ((Wh.size : Int) - 1 - ((All.size : Int) - (Fi.size : Int)))) := fun h exp => by
      unfold normN; rw [← hAl, ← hFl, if_neg (by rw [← Lib.toList_data]; exact h), ← hGl, Lib.size_eq Wh, Lib.size_eq All, Lib.size_eq Fi]
    by_cases hE0 : E.toList = []
    · have hx : expN E.data.toList = some 0 := by rw [← Lib.toList_data, hE0]; rfl
      rw [hN, hx, Option.map_some]
      by_cases hFe : Fi.toList = []
      · rw [hX0 hFe]; exact parse_ed0 s w hs b R n hm hR hRs hn hn1 hn0 h00 Wh R2 hWh hW1 hWs hR2 hR2s hd hR2p R3 hR3 hR3s k hk hkp hk1 PT E hPT hPTs hE hE0 All Fi G hA hAs hF hFs hG hFe
      · rw [hX1 hFe, Int.zero_add]; exact parse_ed1 s w hs b R n hm hR hRs hn hn1 hn0 h00 Wh R2 hWh hW1 hWs hR2 hR2s hd hR2p R3 hR3 hR3s k hk hkp hk1 PT E hPT hPTs hE hE0 All Fi G hA hAs hF hFs hG hFe
    · have hz := ba_pos hE0
      have hEl := ba_head hz
      by_cases he : ((E[0]'hz).toNat : Int) = 101 ∨ ((E[0]'hz).toNat : Int) = 69
      · obtain ⟨F, hF1⟩ : ∃ F, E.extract 1 E.size = F := ⟨_, rfl⟩
        have hFz : F.size ≤ 400 := by rw [← hF1]; exact Nat.le_trans (extract1_size E) hEs
        have hx : expN E.data.toList = powerN F.data.toList := by
          rw [hEl, hF1]
          exact if_pos (he.imp (byte_is (k := 101) (by decide)).1 (byte_is (k := 69) (by decide)).1)
        rw [hN, hx]
        cases hP : powerN F.data.toList with
        | none => exact parse_xd s w hs b R n hm hR hRs hn hn1 hn0 h00 Wh R2 hWh hW1 hWs hR2 hR2s hd hR2p R3 hR3 hR3s k hk hkp hk1 PT E hPT hPTs hE hE0 hEs hz he F hF1 hFz hP
        | some q =>
          obtain ⟨hq1, hq2⟩ := powerN_range hP
          rw [Option.map_some]
          by_cases hFe : Fi.toList = []
          · rw [hX0 hFe]; exact parse_pd0 s w hs b R n hm hR hRs hn hn1 hn0 h00 Wh R2 hWh hW1 hWs hR2 hR2s hd hR2p R3 hR3 hR3s k hk hkp hk1 PT E hPT hPTs hE hE0 hEs hz he F hF1 hFz q hq1 hq2 hP All Fi G hA hAs hF hFs hG hFe
          · rw [hX1 hFe]; exact parse_pd1 s w hs b R n hm hR hRs hn hn1 hn0 h00 Wh R2 hWh hW1 hWs hR2 hR2s hd hR2p R3 hR3 hR3s k hk hkp hk1 PT E hPT hPTs hE hE0 hEs hz he F hF1 hFz q hq1 hq2 hP All Fi G hA hAs hF hFs hG hFe
      · have hx : expN E.data.toList = none := by
          rw [hEl]
          exact if_neg (fun h => he (h.imp (byte_is (k := 101) (by decide)).2 (byte_is (k := 69) (by decide)).2))
        rw [hN, hx]
        exact parse_od s w hs b R n hm hR hRs hn hn1 hn0 h00 Wh R2 hWh hW1 hWs hR2 hR2s hd hR2p R3 hR3 hR3s k hk hkp hk1 PT E hPT hPTs hE hE0 hEs hz (fun h => he (.inl h)) (fun h => he (.inr h))
end Go.Proofs.YtffcpmohanhihaaGreatDoor
