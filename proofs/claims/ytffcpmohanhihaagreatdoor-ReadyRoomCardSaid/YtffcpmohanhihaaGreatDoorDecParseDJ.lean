/-
  dec.parse, walked case by case. No condition beside those that name the case.
-/
import Derived.Test.YtffcpmohanhihaaGreatDoorJ2
import Derived.Handy
namespace Go.Proofs.YtffcpmohanhihaaGreatDoor
open Go.RowKit
set_option linter.unusedVariables false
set_option linter.unusedSimpArgs false

set_option maxRecDepth 100000 in
set_option maxHeartbeats 2000000 in
theorem parse_od (s : ByteArray) (w : World) (hs : s.size ≤ 400) (b : Bool) (R : ByteArray) (n : Nat) (hm : Lib.hasPrefix s.data.toList [45] = b) (hR : (⟨(Lib.trimPrefix s.data.toList [45]).toArray⟩ : ByteArray) = R) (hRs : R.size ≤ 400) (hn : digN R.data.toList = n) (hn1 : n ≤ R.size) (hn0 : 0 < n) (h00 : n ≤ 1 ∨ ∃ h : 0 < R.size, ¬ ((R[0]'h).toNat : Int) = 48) (Wh R2 : ByteArray) (hWh : R.extract 0 n = Wh) (hW1 : 1 ≤ Wh.size) (hWs : Wh.size ≤ 400) (hR2 : R.extract n R.size = R2) (hR2s : R2.size ≤ 400) (hd : Lib.hasPrefix R2.data.toList [46] = true) (hR2p : 1 ≤ (R2.size : Int)) (R3 : ByteArray) (hR3 : R2.extract 1 R2.size = R3) (hR3s : R3.size ≤ 400) (k : Nat) (hk : digN R3.data.toList = k) (hk0 : 0 < k) (hk1 : k + 1 ≤ R2.size) (PT E : ByteArray) (hPT : R2.extract 1 (k + 1) = PT) (hPTs : PT.size ≤ 400) (hE : R2.extract (k + 1) R2.size = E) (hE0 : ¬ E.toList = []) (hEs : E.size ≤ 400) (hz : 0 < E.size) (hz1 : ¬ ((E[0]'hz).toNat : Int) = 101) (hz2 : ¬ ((E[0]'hz).toNat : Int) = 69) :
    Calls Tryz.prog 157 #[.string s] w fun e w' => e = .returned (parseV none) ∧ Below w.heap.size w w' := by
  have HR := Lib.hid hR
  have Hm := Lib.hid hm
  have Hn := Lib.hid hn
  clear hR hm hn
  have H00 := Lib.hid h00
  have Hd := Lib.hid hd
  clear h00 hd
  have Hk := Lib.hid hk
  clear hk
  have hz3 : (((E[0]'hz).toNat : Int) != 101) = true := by simp [hz1]
  have hz4 : (((E[0]'hz).toNat : Int) != 69) = true := by simp [hz2]
  have hie : E.toList.isEmpty = false := by simp [hE0]
  go_enter Tryz.func157, Tryz.ntmps157
  go_wp2_with (first | (go_at_call 164; refine (Tryz.strings_CutPrefix _ _ _).mono ?_; rintro e w1 ⟨rfl, hw⟩; rw [hw]; clear hw; rw [HR.out, Hm.out]) | (go_at_call 165; refine (digits_any _ _ (by omega)).mono ?_; rintro e w1 ⟨rfl, hw⟩; rw [hw]; clear hw; first | rw [Hn.out] | rw [Hk.out]) | (go_at_call 166; refine (Tryz.strings_HasPrefix _ _ _).mono ?_; rintro e w1 ⟨rfl, hw⟩; rw [hw]; clear hw; rw [Hd.out]))
  all_goals first | (exfalso; rcases H00.out with h | ⟨h, h2⟩ <;> first | omega | (apply h2; assumption) | (apply h2; simp_all; done)) | skip
  all_goals (go_quiet (fail); have hrow := Lib.hid (new_row w (.cells #[.bool false, .string ⟨#[]⟩, .int .i64 0] 203) nq); have hbp2 := Lib.hid (new_below w (.cells #[.bool false, .string ⟨#[]⟩, .int .i64 0] 203) nq); generalize World.drewN (World.alloc w (.cells #[.bool false, .string ⟨#[]⟩, .int .i64 0] 203)) nq = wz at hrow hbp2 ⊢)
  all_goals go_wp2_with (first | (refine wpList_store_row rfl 203 _ _ rfl w.heap.size _ rfl rfl 203 _ hrow.out num_info rfl num_one ?_; intro w7 hbn hgn hon hsn; have hgn2 := Lib.hid hgn; have hbn2 := Lib.hid (hbp2.out.trans hbn); clear hbn hgn hon hsn) | (go_at_call 164; refine (Tryz.strings_CutPrefix _ _ _).mono ?_; rintro e w1 ⟨rfl, hw⟩; rw [hw]; clear hw; rw [HR.out, Hm.out]) | (go_at_call 165; refine (digits_any _ _ (by omega)).mono ?_; rintro e w1 ⟨rfl, hw⟩; rw [hw]; clear hw; first | rw [Hn.out] | rw [Hk.out]) | (go_at_call 166; refine (Tryz.strings_HasPrefix _ _ _).mono ?_; rintro e w1 ⟨rfl, hw⟩; rw [hw]; clear hw; rw [Hd.out]))
  all_goals first | (exfalso; rcases H00.out with h | ⟨h, h2⟩ <;> first | omega | (apply h2; assumption) | (apply h2; simp_all; done)) | (exact bodyPost_ret (results_row_tmp rfl _ _ w.heap.size _ _ _ _ _ rfl rfl hgn2.out Tryz.underlying203 rfl num_info) rfl ⟨rfl, hbn2.out⟩)

set_option maxRecDepth 100000 in
set_option maxHeartbeats 2000000 in
theorem parse_xd (s : ByteArray) (w : World) (hs : s.size ≤ 400) (b : Bool) (R : ByteArray) (n : Nat) (hm : Lib.hasPrefix s.data.toList [45] = b) (hR : (⟨(Lib.trimPrefix s.data.toList [45]).toArray⟩ : ByteArray) = R) (hRs : R.size ≤ 400) (hn : digN R.data.toList = n) (hn1 : n ≤ R.size) (hn0 : 0 < n) (h00 : n ≤ 1 ∨ ∃ h : 0 < R.size, ¬ ((R[0]'h).toNat : Int) = 48) (Wh R2 : ByteArray) (hWh : R.extract 0 n = Wh) (hW1 : 1 ≤ Wh.size) (hWs : Wh.size ≤ 400) (hR2 : R.extract n R.size = R2) (hR2s : R2.size ≤ 400) (hd : Lib.hasPrefix R2.data.toList [46] = true) (hR2p : 1 ≤ (R2.size : Int)) (R3 : ByteArray) (hR3 : R2.extract 1 R2.size = R3) (hR3s : R3.size ≤ 400) (k : Nat) (hk : digN R3.data.toList = k) (hk0 : 0 < k) (hk1 : k + 1 ≤ R2.size) (PT E : ByteArray) (hPT : R2.extract 1 (k + 1) = PT) (hPTs : PT.size ≤ 400) (hE : R2.extract (k + 1) R2.size = E) (hE0 : ¬ E.toList = []) (hEs : E.size ≤ 400) (hz : 0 < E.size) (he : ((E[0]'hz).toNat : Int) = 101 ∨ ((E[0]'hz).toNat : Int) = 69) (F : ByteArray) (hF1 : E.extract 1 E.size = F) (hFz : F.size ≤ 400) (hP : powerN F.data.toList = none) :
    Calls Tryz.prog 157 #[.string s] w fun e w' => e = .returned (parseV none) ∧ Below w.heap.size w w' := by
  have HR := Lib.hid hR
  have Hm := Lib.hid hm
  have Hn := Lib.hid hn
  clear hR hm hn
  have H00 := Lib.hid h00
  have Hd := Lib.hid hd
  clear h00 hd
  have Hk := Lib.hid hk
  clear hk
  have HEE := Lib.hid he
  clear he
  have HP := Lib.hid hP
  clear hP
  have hie : E.toList.isEmpty = false := by simp [hE0]
  go_enter Tryz.func157, Tryz.ntmps157
  go_wp2_with (first | (go_at_call 164; refine (Tryz.strings_CutPrefix _ _ _).mono ?_; rintro e w1 ⟨rfl, hw⟩; rw [hw]; clear hw; rw [HR.out, Hm.out]) | (go_at_call 165; refine (digits_any _ _ (by omega)).mono ?_; rintro e w1 ⟨rfl, hw⟩; rw [hw]; clear hw; first | rw [Hn.out] | rw [Hk.out]) | (go_at_call 166; refine (Tryz.strings_HasPrefix _ _ _).mono ?_; rintro e w1 ⟨rfl, hw⟩; rw [hw]; clear hw; rw [Hd.out]))
  all_goals first | (exfalso; rcases H00.out with h | ⟨h, h2⟩ <;> first | omega | (apply h2; assumption) | (apply h2; simp_all; done)) | skip
  all_goals (go_quiet (fail); have hrow := Lib.hid (new_row w (.cells #[.bool false, .string ⟨#[]⟩, .int .i64 0] 203) nq); have hbp2 := Lib.hid (new_below w (.cells #[.bool false, .string ⟨#[]⟩, .int .i64 0] 203) nq); generalize World.drewN (World.alloc w (.cells #[.bool false, .string ⟨#[]⟩, .int .i64 0] 203)) nq = wz at hrow hbp2 ⊢)
  all_goals go_wp2_with (first | (refine wpList_store_row rfl 203 _ _ rfl w.heap.size _ rfl rfl 203 _ hrow.out num_info rfl num_one ?_; intro w7 hbn hgn hon hsn; have hgn2 := Lib.hid hgn; have hbn2 := Lib.hid (hbp2.out.trans hbn); clear hbn hgn hon hsn) | (go_at_call 164; refine (Tryz.strings_CutPrefix _ _ _).mono ?_; rintro e w1 ⟨rfl, hw⟩; rw [hw]; clear hw; rw [HR.out, Hm.out]) | (go_at_call 165; refine (digits_any _ _ (by omega)).mono ?_; rintro e w1 ⟨rfl, hw⟩; rw [hw]; clear hw; first | rw [Hn.out] | rw [Hk.out]) | (go_at_call 166; refine (Tryz.strings_HasPrefix _ _ _).mono ?_; rintro e w1 ⟨rfl, hw⟩; rw [hw]; clear hw; rw [Hd.out]) | (go_at_call 167; refine (power_any _ _ (by omega)).mono ?_; rintro e wp ⟨rfl, hbp⟩; rw [HP.out]; have hrow0 := hrow; have hbz := hbp2; clear hrow hbp2; have hrow := Lib.hid ((hbp.block w.heap.size (Array.getElem?_eq_some_iff.1 hrow0.out).1).trans hrow0.out); have hbp2 := Lib.hid (hbz.out.trans (hbp.mono hbz.out.size)); clear hbp hrow0 hbz))
  all_goals first | (exfalso; rcases H00.out with h | ⟨h, h2⟩ <;> first | omega | (apply h2; assumption) | (apply h2; simp_all; done)) | (exfalso; rcases HEE.out with h | h <;> first | contradiction | (simp_all; done)) | (exact bodyPost_ret (results_row_tmp rfl _ _ w.heap.size _ _ _ _ _ rfl rfl hgn2.out Tryz.underlying203 rfl num_info) rfl ⟨rfl, hbn2.out⟩)

set_option maxRecDepth 100000 in
set_option maxHeartbeats 2000000 in
theorem parse_ed0 (s : ByteArray) (w : World) (hs : s.size ≤ 400) (b : Bool) (R : ByteArray) (n : Nat) (hm : Lib.hasPrefix s.data.toList [45] = b) (hR : (⟨(Lib.trimPrefix s.data.toList [45]).toArray⟩ : ByteArray) = R) (hRs : R.size ≤ 400) (hn : digN R.data.toList = n) (hn1 : n ≤ R.size) (hn0 : 0 < n) (h00 : n ≤ 1 ∨ ∃ h : 0 < R.size, ¬ ((R[0]'h).toNat : Int) = 48) (Wh R2 : ByteArray) (hWh : R.extract 0 n = Wh) (hW1 : 1 ≤ Wh.size) (hWs : Wh.size ≤ 400) (hR2 : R.extract n R.size = R2) (hR2s : R2.size ≤ 400) (hd : Lib.hasPrefix R2.data.toList [46] = true) (hR2p : 1 ≤ (R2.size : Int)) (R3 : ByteArray) (hR3 : R2.extract 1 R2.size = R3) (hR3s : R3.size ≤ 400) (k : Nat) (hk : digN R3.data.toList = k) (hk0 : 0 < k) (hk1 : k + 1 ≤ R2.size) (PT E : ByteArray) (hPT : R2.extract 1 (k + 1) = PT) (hPTs : PT.size ≤ 400) (hE : R2.extract (k + 1) R2.size = E) (hE0 : E.toList = []) (All Fi G : ByteArray) (hA : Wh ++ PT = All) (hAs : All.size ≤ 800) (hF : (⟨(Lib.trimLeftB All.data.toList 48).toArray⟩ : ByteArray) = Fi) (hFs : Fi.size ≤ All.size) (hG : (⟨(Lib.trimRightB Fi.data.toList 48).toArray⟩ : ByteArray) = G) (hFe : Fi.toList = []) :
    Calls Tryz.prog 157 #[.string s] w fun e w' => e = .returned (parseV (some (false, [], 0))) ∧ Below w.heap.size w w' := by
  have HR := Lib.hid hR
  have Hm := Lib.hid hm
  have Hn := Lib.hid hn
  clear hR hm hn
  have H00 := Lib.hid h00
  have Hd := Lib.hid hd
  clear h00 hd
  have Hk := Lib.hid hk
  clear hk
  have HF := Lib.hid hF
  have HG := Lib.hid hG
  clear hF hG
  have hfe : Fi.toList.isEmpty = true := by simp [hFe]
  have hie : E.toList.isEmpty = true := by simp [hE0]
  go_enter Tryz.func157, Tryz.ntmps157
  go_wp2_with (first | (go_at_call 164; refine (Tryz.strings_CutPrefix _ _ _).mono ?_; rintro e w1 ⟨rfl, hw⟩; rw [hw]; clear hw; rw [HR.out, Hm.out]) | (go_at_call 165; refine (digits_any _ _ (by omega)).mono ?_; rintro e w1 ⟨rfl, hw⟩; rw [hw]; clear hw; first | rw [Hn.out] | rw [Hk.out]) | (go_at_call 166; refine (Tryz.strings_HasPrefix _ _ _).mono ?_; rintro e w1 ⟨rfl, hw⟩; rw [hw]; clear hw; rw [Hd.out]))
  all_goals first | (exfalso; rcases H00.out with h | ⟨h, h2⟩ <;> first | omega | (apply h2; assumption) | (apply h2; simp_all; done)) | skip
  all_goals (go_quiet (fail); have hrow := Lib.hid (new_row w (.cells #[.bool false, .string ⟨#[]⟩, .int .i64 0] 203) nq); have hbp2 := Lib.hid (new_below w (.cells #[.bool false, .string ⟨#[]⟩, .int .i64 0] 203) nq); generalize World.drewN (World.alloc w (.cells #[.bool false, .string ⟨#[]⟩, .int .i64 0] 203)) nq = wz at hrow hbp2 ⊢)
  all_goals go_wp2_with (first | (refine wpList_store_row rfl 203 _ _ rfl w.heap.size _ rfl rfl 203 _ hrow.out num_info rfl num_one ?_; intro w7 hbn hgn hon hsn; have hgn2 := Lib.hid hgn; have hbn2 := Lib.hid (hbp2.out.trans hbn); clear hbn hgn hon hsn) | (go_at_call 164; refine (Tryz.strings_CutPrefix _ _ _).mono ?_; rintro e w1 ⟨rfl, hw⟩; rw [hw]; clear hw; rw [HR.out, Hm.out]) | (go_at_call 165; refine (digits_any _ _ (by omega)).mono ?_; rintro e w1 ⟨rfl, hw⟩; rw [hw]; clear hw; first | rw [Hn.out] | rw [Hk.out]) | (go_at_call 166; refine (Tryz.strings_HasPrefix _ _ _).mono ?_; rintro e w1 ⟨rfl, hw⟩; rw [hw]; clear hw; rw [Hd.out]) | (go_at_call 168; refine (Tryz.strings_TrimLeft_one _ 48 (by decide) _).mono ?_; rintro e w1 ⟨rfl, hw⟩; rw [hw]; clear hw; rw [HF.out]) | (go_at_call 169; refine (Tryz.strings_TrimRight_one _ 48 (by decide) _ (by omega)).mono ?_; rintro e w1 ⟨rfl, hw⟩; rw [hw]; clear hw; rw [HG.out]))
  all_goals first | (exfalso; rcases H00.out with h | ⟨h, h2⟩ <;> first | omega | (apply h2; assumption) | (apply h2; simp_all; done)) | (exact bodyPost_ret (results_row_tmp rfl _ _ w.heap.size _ _ _ _ _ rfl rfl hgn2.out Tryz.underlying203 rfl num_info) rfl ⟨rfl, hbn2.out⟩)

set_option maxRecDepth 100000 in
set_option maxHeartbeats 2000000 in
theorem parse_pd0 (s : ByteArray) (w : World) (hs : s.size ≤ 400) (b : Bool) (R : ByteArray) (n : Nat) (hm : Lib.hasPrefix s.data.toList [45] = b) (hR : (⟨(Lib.trimPrefix s.data.toList [45]).toArray⟩ : ByteArray) = R) (hRs : R.size ≤ 400) (hn : digN R.data.toList = n) (hn1 : n ≤ R.size) (hn0 : 0 < n) (h00 : n ≤ 1 ∨ ∃ h : 0 < R.size, ¬ ((R[0]'h).toNat : Int) = 48) (Wh R2 : ByteArray) (hWh : R.extract 0 n = Wh) (hW1 : 1 ≤ Wh.size) (hWs : Wh.size ≤ 400) (hR2 : R.extract n R.size = R2) (hR2s : R2.size ≤ 400) (hd : Lib.hasPrefix R2.data.toList [46] = true) (hR2p : 1 ≤ (R2.size : Int)) (R3 : ByteArray) (hR3 : R2.extract 1 R2.size = R3) (hR3s : R3.size ≤ 400) (k : Nat) (hk : digN R3.data.toList = k) (hk0 : 0 < k) (hk1 : k + 1 ≤ R2.size) (PT E : ByteArray) (hPT : R2.extract 1 (k + 1) = PT) (hPTs : PT.size ≤ 400) (hE : R2.extract (k + 1) R2.size = E) (hE0 : ¬ E.toList = []) (hEs : E.size ≤ 400) (hz : 0 < E.size) (he : ((E[0]'hz).toNat : Int) = 101 ∨ ((E[0]'hz).toNat : Int) = 69) (F : ByteArray) (hF1 : E.extract 1 E.size = F) (hFz : F.size ≤ 400) (q : Int) (hq1 : -100000 ≤ q) (hq2 : q ≤ 100000) (hP : powerN F.data.toList = some q) (All Fi G : ByteArray) (hA : Wh ++ PT = All) (hAs : All.size ≤ 800) (hF : (⟨(Lib.trimLeftB All.data.toList 48).toArray⟩ : ByteArray) = Fi) (hFs : Fi.size ≤ All.size) (hG : (⟨(Lib.trimRightB Fi.data.toList 48).toArray⟩ : ByteArray) = G) (hFe : Fi.toList = []) :
    Calls Tryz.prog 157 #[.string s] w fun e w' => e = .returned (parseV (some (false, [], 0))) ∧ Below w.heap.size w w' := by
  have HR := Lib.hid hR
  have Hm := Lib.hid hm
  have Hn := Lib.hid hn
  clear hR hm hn
  have H00 := Lib.hid h00
  have Hd := Lib.hid hd
  clear h00 hd
  have Hk := Lib.hid hk
  clear hk
  have HF := Lib.hid hF
  have HG := Lib.hid hG
  clear hF hG
  have HEE := Lib.hid he
  clear he
  have hfe : Fi.toList.isEmpty = true := by simp [hFe]
  have HP := Lib.hid hP
  clear hP
  have hie : E.toList.isEmpty = false := by simp [hE0]
  go_enter Tryz.func157, Tryz.ntmps157
  go_wp2_with (first | (go_at_call 164; refine (Tryz.strings_CutPrefix _ _ _).mono ?_; rintro e w1 ⟨rfl, hw⟩; rw [hw]; clear hw; rw [HR.out, Hm.out]) | (go_at_call 165; refine (digits_any _ _ (by omega)).mono ?_; rintro e w1 ⟨rfl, hw⟩; rw [hw]; clear hw; first | rw [Hn.out] | rw [Hk.out]) | (go_at_call 166; refine (Tryz.strings_HasPrefix _ _ _).mono ?_; rintro e w1 ⟨rfl, hw⟩; rw [hw]; clear hw; rw [Hd.out]))
  all_goals first | (exfalso; rcases H00.out with h | ⟨h, h2⟩ <;> first | omega | (apply h2; assumption) | (apply h2; simp_all; done)) | skip
  all_goals (go_quiet (fail); have hrow := Lib.hid (new_row w (.cells #[.bool false, .string ⟨#[]⟩, .int .i64 0] 203) nq); have hbp2 := Lib.hid (new_below w (.cells #[.bool false, .string ⟨#[]⟩, .int .i64 0] 203) nq); generalize World.drewN (World.alloc w (.cells #[.bool false, .string ⟨#[]⟩, .int .i64 0] 203)) nq = wz at hrow hbp2 ⊢)
  all_goals go_wp2_with (first | (refine wpList_store_row rfl 203 _ _ rfl w.heap.size _ rfl rfl 203 _ hrow.out num_info rfl num_one ?_; intro w7 hbn hgn hon hsn; have hgn2 := Lib.hid hgn; have hbn2 := Lib.hid (hbp2.out.trans hbn); clear hbn hgn hon hsn) | (go_at_call 164; refine (Tryz.strings_CutPrefix _ _ _).mono ?_; rintro e w1 ⟨rfl, hw⟩; rw [hw]; clear hw; rw [HR.out, Hm.out]) | (go_at_call 165; refine (digits_any _ _ (by omega)).mono ?_; rintro e w1 ⟨rfl, hw⟩; rw [hw]; clear hw; first | rw [Hn.out] | rw [Hk.out]) | (go_at_call 166; refine (Tryz.strings_HasPrefix _ _ _).mono ?_; rintro e w1 ⟨rfl, hw⟩; rw [hw]; clear hw; rw [Hd.out]) | (go_at_call 167; refine (power_any _ _ (by omega)).mono ?_; rintro e wp ⟨rfl, hbp⟩; rw [HP.out]; have hrow0 := hrow; have hbz := hbp2; clear hrow hbp2; have hrow := Lib.hid ((hbp.block w.heap.size (Array.getElem?_eq_some_iff.1 hrow0.out).1).trans hrow0.out); have hbp2 := Lib.hid (hbz.out.trans (hbp.mono hbz.out.size)); clear hbp hrow0 hbz) | (go_at_call 168; refine (Tryz.strings_TrimLeft_one _ 48 (by decide) _).mono ?_; rintro e w1 ⟨rfl, hw⟩; rw [hw]; clear hw; rw [HF.out]) | (go_at_call 169; refine (Tryz.strings_TrimRight_one _ 48 (by decide) _ (by omega)).mono ?_; rintro e w1 ⟨rfl, hw⟩; rw [hw]; clear hw; rw [HG.out]))
  all_goals first | (exfalso; rcases H00.out with h | ⟨h, h2⟩ <;> first | omega | (apply h2; assumption) | (apply h2; simp_all; done)) | (exfalso; rcases HEE.out with h | h <;> first | contradiction | (simp_all; done)) | (exact bodyPost_ret (results_row_tmp rfl _ _ w.heap.size _ _ _ _ _ rfl rfl hgn2.out Tryz.underlying203 rfl num_info) rfl ⟨rfl, hbn2.out⟩)

set_option maxRecDepth 100000 in
set_option maxHeartbeats 2000000 in
theorem parse_ed1 (s : ByteArray) (w : World) (hs : s.size ≤ 400) (b : Bool) (R : ByteArray) (n : Nat) (hm : Lib.hasPrefix s.data.toList [45] = b) (hR : (⟨(Lib.trimPrefix s.data.toList [45]).toArray⟩ : ByteArray) = R) (hRs : R.size ≤ 400) (hn : digN R.data.toList = n) (hn1 : n ≤ R.size) (hn0 : 0 < n) (h00 : n ≤ 1 ∨ ∃ h : 0 < R.size, ¬ ((R[0]'h).toNat : Int) = 48) (Wh R2 : ByteArray) (hWh : R.extract 0 n = Wh) (hW1 : 1 ≤ Wh.size) (hWs : Wh.size ≤ 400) (hR2 : R.extract n R.size = R2) (hR2s : R2.size ≤ 400) (hd : Lib.hasPrefix R2.data.toList [46] = true) (hR2p : 1 ≤ (R2.size : Int)) (R3 : ByteArray) (hR3 : R2.extract 1 R2.size = R3) (hR3s : R3.size ≤ 400) (k : Nat) (hk : digN R3.data.toList = k) (hk0 : 0 < k) (hk1 : k + 1 ≤ R2.size) (PT E : ByteArray) (hPT : R2.extract 1 (k + 1) = PT) (hPTs : PT.size ≤ 400) (hE : R2.extract (k + 1) R2.size = E) (hE0 : E.toList = []) (All Fi G : ByteArray) (hA : Wh ++ PT = All) (hAs : All.size ≤ 800) (hF : (⟨(Lib.trimLeftB All.data.toList 48).toArray⟩ : ByteArray) = Fi) (hFs : Fi.size ≤ All.size) (hG : (⟨(Lib.trimRightB Fi.data.toList 48).toArray⟩ : ByteArray) = G) (hFe : ¬ Fi.toList = []) :
    Calls Tryz.prog 157 #[.string s] w fun e w' => e = .returned (parseV (some (b, G.data.toList, ((Wh.size : Int) - 1 - ((All.size : Int) - (Fi.size : Int)))))) ∧ Below w.heap.size w w' := by
  have HR := Lib.hid hR
  have Hm := Lib.hid hm
  have Hn := Lib.hid hn
  clear hR hm hn
  have H00 := Lib.hid h00
  have Hd := Lib.hid hd
  clear h00 hd
  have Hk := Lib.hid hk
  clear hk
  have HF := Lib.hid hF
  have HG := Lib.hid hG
  clear hF hG
  have hfe : Fi.toList.isEmpty = false := by simp [hFe]
  have hie : E.toList.isEmpty = true := by simp [hE0]
  go_enter Tryz.func157, Tryz.ntmps157
  go_wp2_with (first | (go_at_call 164; refine (Tryz.strings_CutPrefix _ _ _).mono ?_; rintro e w1 ⟨rfl, hw⟩; rw [hw]; clear hw; rw [HR.out, Hm.out]) | (go_at_call 165; refine (digits_any _ _ (by omega)).mono ?_; rintro e w1 ⟨rfl, hw⟩; rw [hw]; clear hw; first | rw [Hn.out] | rw [Hk.out]) | (go_at_call 166; refine (Tryz.strings_HasPrefix _ _ _).mono ?_; rintro e w1 ⟨rfl, hw⟩; rw [hw]; clear hw; rw [Hd.out]))
  all_goals first | (exfalso; rcases H00.out with h | ⟨h, h2⟩ <;> first | omega | (apply h2; assumption) | (apply h2; simp_all; done)) | skip
  all_goals (go_quiet (fail); have hrow := Lib.hid (new_row w (.cells #[.bool false, .string ⟨#[]⟩, .int .i64 0] 203) nq); have hbp2 := Lib.hid (new_below w (.cells #[.bool false, .string ⟨#[]⟩, .int .i64 0] 203) nq); generalize World.drewN (World.alloc w (.cells #[.bool false, .string ⟨#[]⟩, .int .i64 0] 203)) nq = wz at hrow hbp2 ⊢)
  all_goals go_wp2_with (first | (refine wpList_store_row rfl 203 _ _ rfl w.heap.size _ rfl rfl 203 _ hrow.out num_info rfl num_one ?_; intro w7 hbn hgn hon hsn; have hgn2 := Lib.hid hgn; have hbn2 := Lib.hid (hbp2.out.trans hbn); clear hbn hgn hon hsn) | (go_at_call 164; refine (Tryz.strings_CutPrefix _ _ _).mono ?_; rintro e w1 ⟨rfl, hw⟩; rw [hw]; clear hw; rw [HR.out, Hm.out]) | (go_at_call 165; refine (digits_any _ _ (by omega)).mono ?_; rintro e w1 ⟨rfl, hw⟩; rw [hw]; clear hw; first | rw [Hn.out] | rw [Hk.out]) | (go_at_call 166; refine (Tryz.strings_HasPrefix _ _ _).mono ?_; rintro e w1 ⟨rfl, hw⟩; rw [hw]; clear hw; rw [Hd.out]) | (go_at_call 168; refine (Tryz.strings_TrimLeft_one _ 48 (by decide) _).mono ?_; rintro e w1 ⟨rfl, hw⟩; rw [hw]; clear hw; rw [HF.out]) | (go_at_call 169; refine (Tryz.strings_TrimRight_one _ 48 (by decide) _ (by omega)).mono ?_; rintro e w1 ⟨rfl, hw⟩; rw [hw]; clear hw; rw [HG.out]))
  all_goals first | (exfalso; rcases H00.out with h | ⟨h, h2⟩ <;> first | omega | (apply h2; assumption) | (apply h2; simp_all; done)) | (exact bodyPost_ret (results_row_tmp rfl _ _ w.heap.size _ _ _ _ _ rfl rfl hgn2.out Tryz.underlying203 rfl num_info) rfl ⟨rfl, hbn2.out⟩)

set_option maxRecDepth 100000 in
set_option maxHeartbeats 2000000 in
theorem parse_pd1 (s : ByteArray) (w : World) (hs : s.size ≤ 400) (b : Bool) (R : ByteArray) (n : Nat) (hm : Lib.hasPrefix s.data.toList [45] = b) (hR : (⟨(Lib.trimPrefix s.data.toList [45]).toArray⟩ : ByteArray) = R) (hRs : R.size ≤ 400) (hn : digN R.data.toList = n) (hn1 : n ≤ R.size) (hn0 : 0 < n) (h00 : n ≤ 1 ∨ ∃ h : 0 < R.size, ¬ ((R[0]'h).toNat : Int) = 48) (Wh R2 : ByteArray) (hWh : R.extract 0 n = Wh) (hW1 : 1 ≤ Wh.size) (hWs : Wh.size ≤ 400) (hR2 : R.extract n R.size = R2) (hR2s : R2.size ≤ 400) (hd : Lib.hasPrefix R2.data.toList [46] = true) (hR2p : 1 ≤ (R2.size : Int)) (R3 : ByteArray) (hR3 : R2.extract 1 R2.size = R3) (hR3s : R3.size ≤ 400) (k : Nat) (hk : digN R3.data.toList = k) (hk0 : 0 < k) (hk1 : k + 1 ≤ R2.size) (PT E : ByteArray) (hPT : R2.extract 1 (k + 1) = PT) (hPTs : PT.size ≤ 400) (hE : R2.extract (k + 1) R2.size = E) (hE0 : ¬ E.toList = []) (hEs : E.size ≤ 400) (hz : 0 < E.size) (he : ((E[0]'hz).toNat : Int) = 101 ∨ ((E[0]'hz).toNat : Int) = 69) (F : ByteArray) (hF1 : E.extract 1 E.size = F) (hFz : F.size ≤ 400) (q : Int) (hq1 : -100000 ≤ q) (hq2 : q ≤ 100000) (hP : powerN F.data.toList = some q) (All Fi G : ByteArray) (hA : Wh ++ PT = All) (hAs : All.size ≤ 800) (hF : (⟨(Lib.trimLeftB All.data.toList 48).toArray⟩ : ByteArray) = Fi) (hFs : Fi.size ≤ All.size) (hG : (⟨(Lib.trimRightB Fi.data.toList 48).toArray⟩ : ByteArray) = G) (hFe : ¬ Fi.toList = []) :
    Calls Tryz.prog 157 #[.string s] w fun e w' => e = .returned (parseV (some (b, G.data.toList, q + ((Wh.size : Int) - 1 - ((All.size : Int) - (Fi.size : Int)))))) ∧ Below w.heap.size w w' := by
  have HR := Lib.hid hR
  have Hm := Lib.hid hm
  have Hn := Lib.hid hn
  clear hR hm hn
  have H00 := Lib.hid h00
  have Hd := Lib.hid hd
  clear h00 hd
  have Hk := Lib.hid hk
  clear hk
  have HF := Lib.hid hF
  have HG := Lib.hid hG
  clear hF hG
  have HEE := Lib.hid he
  clear he
  have hfe : Fi.toList.isEmpty = false := by simp [hFe]
  have HP := Lib.hid hP
  clear hP
  have hie : E.toList.isEmpty = false := by simp [hE0]
  go_enter Tryz.func157, Tryz.ntmps157
  go_wp2_with (first | (go_at_call 164; refine (Tryz.strings_CutPrefix _ _ _).mono ?_; rintro e w1 ⟨rfl, hw⟩; rw [hw]; clear hw; rw [HR.out, Hm.out]) | (go_at_call 165; refine (digits_any _ _ (by omega)).mono ?_; rintro e w1 ⟨rfl, hw⟩; rw [hw]; clear hw; first | rw [Hn.out] | rw [Hk.out]) | (go_at_call 166; refine (Tryz.strings_HasPrefix _ _ _).mono ?_; rintro e w1 ⟨rfl, hw⟩; rw [hw]; clear hw; rw [Hd.out]))
  all_goals first | (exfalso; rcases H00.out with h | ⟨h, h2⟩ <;> first | omega | (apply h2; assumption) | (apply h2; simp_all; done)) | skip
  all_goals (go_quiet (fail); have hrow := Lib.hid (new_row w (.cells #[.bool false, .string ⟨#[]⟩, .int .i64 0] 203) nq); have hbp2 := Lib.hid (new_below w (.cells #[.bool false, .string ⟨#[]⟩, .int .i64 0] 203) nq); generalize World.drewN (World.alloc w (.cells #[.bool false, .string ⟨#[]⟩, .int .i64 0] 203)) nq = wz at hrow hbp2 ⊢)
  all_goals go_wp2_with (first | (refine wpList_store_row rfl 203 _ _ rfl w.heap.size _ rfl rfl 203 _ hrow.out num_info rfl num_one ?_; intro w7 hbn hgn hon hsn; have hgn2 := Lib.hid hgn; have hbn2 := Lib.hid (hbp2.out.trans hbn); clear hbn hgn hon hsn) | (go_at_call 164; refine (Tryz.strings_CutPrefix _ _ _).mono ?_; rintro e w1 ⟨rfl, hw⟩; rw [hw]; clear hw; rw [HR.out, Hm.out]) | (go_at_call 165; refine (digits_any _ _ (by omega)).mono ?_; rintro e w1 ⟨rfl, hw⟩; rw [hw]; clear hw; first | rw [Hn.out] | rw [Hk.out]) | (go_at_call 166; refine (Tryz.strings_HasPrefix _ _ _).mono ?_; rintro e w1 ⟨rfl, hw⟩; rw [hw]; clear hw; rw [Hd.out]) | (go_at_call 167; refine (power_any _ _ (by omega)).mono ?_; rintro e wp ⟨rfl, hbp⟩; rw [HP.out]; have hrow0 := hrow; have hbz := hbp2; clear hrow hbp2; have hrow := Lib.hid ((hbp.block w.heap.size (Array.getElem?_eq_some_iff.1 hrow0.out).1).trans hrow0.out); have hbp2 := Lib.hid (hbz.out.trans (hbp.mono hbz.out.size)); clear hbp hrow0 hbz) | (go_at_call 168; refine (Tryz.strings_TrimLeft_one _ 48 (by decide) _).mono ?_; rintro e w1 ⟨rfl, hw⟩; rw [hw]; clear hw; rw [HF.out]) | (go_at_call 169; refine (Tryz.strings_TrimRight_one _ 48 (by decide) _ (by omega)).mono ?_; rintro e w1 ⟨rfl, hw⟩; rw [hw]; clear hw; rw [HG.out]))
  all_goals first | (exfalso; rcases H00.out with h | ⟨h, h2⟩ <;> first | omega | (apply h2; assumption) | (apply h2; simp_all; done)) | (exfalso; rcases HEE.out with h | h <;> first | contradiction | (simp_all; done)) | (exact bodyPost_ret (results_row_tmp rfl _ _ w.heap.size _ _ _ _ _ rfl rfl hgn2.out Tryz.underlying203 rfl num_info) rfl ⟨rfl, hbn2.out⟩)

end Go.Proofs.YtffcpmohanhihaaGreatDoor
