/-
  DecSigns, walked: true, whatever the texts. Condition: the library's variables as it lays them.
-/
import Derived.Test.YtkdejdmmgjibmaaDoorDecNeg
import Derived.Test.YtkdejdmmgjibmaaDoorDecOrder
namespace Go.Proofs.YtkdejdmmgjibmaaDoor
open Go.RowKit
set_option linter.unusedVariables false
set_option linter.unusedSimpArgs false
set_option maxRecDepth 100000 in
set_option maxHeartbeats 1000000 in
theorem signs_la (a b : ByteArray) (w : World) (hw : Vars w) (h1 : ¬ (a.size : Int) ≤ 300) : Calls Tryd.prog 8 #[.string a, .string b] w fun e w' => e = .returned (.bool true) ∧ Below w.heap.size w w' := by
  have HV := Lib.hid hw
  have hbb := Lib.hid (Below.refl w.heap.size w)
  clear hw
  skip
  go_enter Tryd.func8, Tryd.ntmps8
  go_wp2_with (first | (go_at_call 9; refine (awake_any _ (HV.out.step hbb.out)).mono ?_; rintro e w1 ⟨rfl, hb1⟩; have hbb0 := hbb; clear hbb; have hbb := Lib.hid (below_then hbb0.out hbb0.out.size hb1); clear hb1 hbb0) | (go_at_call 12; refine (good_any _ _).mono ?_; rintro e w1 ⟨rfl, hb1⟩; (first | rw [Ga.out] | rw [Gb.out]); have hbb0 := hbb; clear hbb; have hbb := Lib.hid (below_then hbb0.out hbb0.out.size hb1); clear hb1 hbb0))
  all_goals (go_ret; exact ⟨rfl, hbb.out⟩)
set_option maxRecDepth 100000 in
set_option maxHeartbeats 1000000 in
theorem signs_lb (a b : ByteArray) (w : World) (hw : Vars w) (h1 : (a.size : Int) ≤ 300) (h2 : ¬ (b.size : Int) ≤ 300) : Calls Tryd.prog 8 #[.string a, .string b] w fun e w' => e = .returned (.bool true) ∧ Below w.heap.size w w' := by
  have HV := Lib.hid hw
  have hbb := Lib.hid (Below.refl w.heap.size w)
  clear hw
  skip
  go_enter Tryd.func8, Tryd.ntmps8
  go_wp2_with (first | (go_at_call 9; refine (awake_any _ (HV.out.step hbb.out)).mono ?_; rintro e w1 ⟨rfl, hb1⟩; have hbb0 := hbb; clear hbb; have hbb := Lib.hid (below_then hbb0.out hbb0.out.size hb1); clear hb1 hbb0) | (go_at_call 12; refine (good_any _ _).mono ?_; rintro e w1 ⟨rfl, hb1⟩; (first | rw [Ga.out] | rw [Gb.out]); have hbb0 := hbb; clear hbb; have hbb := Lib.hid (below_then hbb0.out hbb0.out.size hb1); clear hb1 hbb0))
  all_goals (go_ret; exact ⟨rfl, hbb.out⟩)
set_option maxRecDepth 100000 in
set_option maxHeartbeats 1000000 in
theorem signs_ga (a b : ByteArray) (w : World) (hw : Vars w) (h1 : (a.size : Int) ≤ 300) (h2 : (b.size : Int) ≤ 300) (ga : goodN a.data.toList = false) : Calls Tryd.prog 8 #[.string a, .string b] w fun e w' => e = .returned (.bool true) ∧ Below w.heap.size w w' := by
  have HV := Lib.hid hw
  have hbb := Lib.hid (Below.refl w.heap.size w)
  clear hw
  have Ga := Lib.hid ga; clear ga
  go_enter Tryd.func8, Tryd.ntmps8
  go_wp2_with (first | (go_at_call 9; refine (awake_any _ (HV.out.step hbb.out)).mono ?_; rintro e w1 ⟨rfl, hb1⟩; have hbb0 := hbb; clear hbb; have hbb := Lib.hid (below_then hbb0.out hbb0.out.size hb1); clear hb1 hbb0) | (go_at_call 12; refine (good_any _ _).mono ?_; rintro e w1 ⟨rfl, hb1⟩; (first | rw [Ga.out] | rw [Gb.out]); have hbb0 := hbb; clear hbb; have hbb := Lib.hid (below_then hbb0.out hbb0.out.size hb1); clear hb1 hbb0))
  all_goals (go_ret; exact ⟨rfl, hbb.out⟩)
set_option maxRecDepth 100000 in
set_option maxHeartbeats 1000000 in
theorem signs_gb (a b : ByteArray) (w : World) (hw : Vars w) (h1 : (a.size : Int) ≤ 300) (h2 : (b.size : Int) ≤ 300) (ga : goodN a.data.toList = true) (gb : goodN b.data.toList = false) : Calls Tryd.prog 8 #[.string a, .string b] w fun e w' => e = .returned (.bool true) ∧ Below w.heap.size w w' := by
  have HV := Lib.hid hw
  have hbb := Lib.hid (Below.refl w.heap.size w)
  clear hw
  have Ga := Lib.hid ga; have Gb := Lib.hid gb; clear ga gb
  go_enter Tryd.func8, Tryd.ntmps8
  go_wp2_with (first | (go_at_call 9; refine (awake_any _ (HV.out.step hbb.out)).mono ?_; rintro e w1 ⟨rfl, hb1⟩; have hbb0 := hbb; clear hbb; have hbb := Lib.hid (below_then hbb0.out hbb0.out.size hb1); clear hb1 hbb0) | (go_at_call 12; refine (good_any _ _).mono ?_; rintro e w1 ⟨rfl, hb1⟩; (first | rw [Ga.out] | rw [Gb.out]); have hbb0 := hbb; clear hbb; have hbb := Lib.hid (below_then hbb0.out hbb0.out.size hb1); clear hb1 hbb0))
  all_goals (go_ret; exact ⟨rfl, hbb.out⟩)
set_option maxRecDepth 100000 in
set_option maxHeartbeats 1000000 in
theorem signs_ma (a b : ByteArray) (w : World) (hw : Vars w) (h1 : (a.size : Int) ≤ 300) (h2 : (b.size : Int) ≤ 300) (ga : goodN a.data.toList = true) (gb : goodN b.data.toList = true) (za : 0 < a.size) (ma : ((a[0]'za).toNat : Int) = 45) : Calls Tryd.prog 8 #[.string a, .string b] w fun e w' => e = .returned (.bool true) ∧ Below w.heap.size w w' := by
  have HV := Lib.hid hw
  have hbb := Lib.hid (Below.refl w.heap.size w)
  clear hw
  have Ga := Lib.hid ga; have Gb := Lib.hid gb; clear ga gb
  go_enter Tryd.func8, Tryd.ntmps8
  go_wp2_with (first | (go_at_call 9; refine (awake_any _ (HV.out.step hbb.out)).mono ?_; rintro e w1 ⟨rfl, hb1⟩; have hbb0 := hbb; clear hbb; have hbb := Lib.hid (below_then hbb0.out hbb0.out.size hb1); clear hb1 hbb0) | (go_at_call 12; refine (good_any _ _).mono ?_; rintro e w1 ⟨rfl, hb1⟩; (first | rw [Ga.out] | rw [Gb.out]); have hbb0 := hbb; clear hbb; have hbb := Lib.hid (below_then hbb0.out hbb0.out.size hb1); clear hb1 hbb0))
  all_goals (go_ret; exact ⟨rfl, hbb.out⟩)
set_option maxRecDepth 100000 in
set_option maxHeartbeats 1000000 in
theorem signs_mb (a b : ByteArray) (w : World) (hw : Vars w) (h1 : (a.size : Int) ≤ 300) (h2 : (b.size : Int) ≤ 300) (ga : goodN a.data.toList = true) (gb : goodN b.data.toList = true) (za : 0 < a.size) (ma : ¬ ((a[0]'za).toNat : Int) = 45) (zb : 0 < b.size) (mb : ((b[0]'zb).toNat : Int) = 45) : Calls Tryd.prog 8 #[.string a, .string b] w fun e w' => e = .returned (.bool true) ∧ Below w.heap.size w w' := by
  have HV := Lib.hid hw
  have hbb := Lib.hid (Below.refl w.heap.size w)
  clear hw
  have Ga := Lib.hid ga; have Gb := Lib.hid gb; clear ga gb
  go_enter Tryd.func8, Tryd.ntmps8
  go_wp2_with (first | (go_at_call 9; refine (awake_any _ (HV.out.step hbb.out)).mono ?_; rintro e w1 ⟨rfl, hb1⟩; have hbb0 := hbb; clear hbb; have hbb := Lib.hid (below_then hbb0.out hbb0.out.size hb1); clear hb1 hbb0) | (go_at_call 12; refine (good_any _ _).mono ?_; rintro e w1 ⟨rfl, hb1⟩; (first | rw [Ga.out] | rw [Gb.out]); have hbb0 := hbb; clear hbb; have hbb := Lib.hid (below_then hbb0.out hbb0.out.size hb1); clear hb1 hbb0))
  all_goals (go_ret; exact ⟨rfl, hbb.out⟩)
set_option maxRecDepth 100000 in
set_option maxHeartbeats 4000000 in
theorem signs_ok (a b : ByteArray) (w : World) (hw : Vars w) (h1 : (a.size : Int) ≤ 300) (h2 : (b.size : Int) ≤ 300) (ga : goodN a.data.toList = true) (gb : goodN b.data.toList = true) (za : 0 < a.size) (ma : ¬ ((a[0]'za).toNat : Int) = 45) (zb : 0 < b.size) (mb : ¬ ((b[0]'zb).toNat : Int) = 45)
    (x z : Int) (v : Bool) (A B : ByteArray) (hA : (⟨#[45]⟩ : ByteArray) ++ a = A) (hB : (⟨#[45]⟩ : ByteArray) ++ b = B) (x1 : cmpN a.data.toList b.data.toList = x) (x2 : cmpN A.data.toList B.data.toList = -x) (x3 : cmpN A.data.toList b.data.toList = z) (hx1 : -1 ≤ x) (hx2 : x ≤ 1) (hz : z ≤ 0)
    (w1 : wholeN a.data.toList = v) (w2 : wholeN A.data.toList = v) :
    Calls Tryd.prog 8 #[.string a, .string b] w fun e w' => e = .returned (.bool true) ∧ Below w.heap.size w w' := by
  have HV := Lib.hid hw
  have hbb := Lib.hid (Below.refl w.heap.size w)
  have Ga := Lib.hid ga
  have Gb := Lib.hid gb
  have X1 := Lib.hid x1
  have X2 := Lib.hid x2
  have X3 := Lib.hid x3
  have x4 : cmpN (⟨#[45, 48]⟩ : ByteArray).data.toList (⟨#[48, 46, 48, 48, 101, 53]⟩ : ByteArray).data.toList = 0 := by kernel_rfl
  have X4 := Lib.hid x4
  have W1 := Lib.hid w1
  have W2 := Lib.hid w2
  clear hw ga gb x1 x2 x3 x4 w1 w2
  go_enter Tryd.func8, Tryd.ntmps8
  go_wp2_with (first | (go_at_call 9; refine (awake_any _ (HV.out.step hbb.out)).mono ?_; rintro e w1 ⟨rfl, hb1⟩; have hbb0 := hbb; clear hbb; have hbb := Lib.hid (below_then hbb0.out hbb0.out.size hb1); clear hb1 hbb0) | (go_at_call 12; refine (good_any _ _).mono ?_; rintro e w1 ⟨rfl, hb1⟩; (first | rw [Ga.out] | rw [Gb.out]); have hbb0 := hbb; clear hbb; have hbb := Lib.hid (below_then hbb0.out hbb0.out.size hb1); clear hb1 hbb0) | (go_at_call 13; refine (cmp_any _ _ _).mono ?_; rintro e w1 ⟨rfl, hb1⟩; (first | rw [X1.out] | rw [X2.out] | rw [X3.out] | rw [X4.out]); have hbb0 := hbb; clear hbb; have hbb := Lib.hid (below_then hbb0.out hbb0.out.size hb1); clear hb1 hbb0) | (go_at_call 17; refine (whole_any _ _).mono ?_; rintro e w1 ⟨rfl, hb1⟩; (first | rw [W1.out] | rw [W2.out]); have hbb0 := hbb; clear hbb; have hbb := Lib.hid (below_then hbb0.out hbb0.out.size hb1); clear hb1 hbb0))
  all_goals (go_ret; exact ⟨rfl, hbb.out⟩)
theorem good_pos {a : ByteArray} (h : goodN a.data.toList = true) : 0 < a.size := by
  rw [Lib.size_eq]
  cases hl : a.data.toList with
  | nil =>
    have h0 : goodN [] = false := by kernel_rfl
    rw [hl, h0] at h; cases h
  | cons c l => simp
theorem head_minus {a : ByteArray} (za : 0 < a.size) : Lib.hasPrefix a.data.toList [45] = true ↔ ((a[0]'za).toNat : Int) = 45 := by
  rw [ba_head za]
  show _ ↔ ((a[0]'za).toNat : Int) = ((45 : Nat) : Int)
  rw [byte_is (k := 45) (by decide)]
  simp [Lib.hasPrefix]
  exact eq_comm
theorem signs_walk (a b : ByteArray) (w : World) (hw : Vars w) : Calls Tryd.prog 8 #[.string a, .string b] w fun e w' => e = .returned (.bool true) ∧ Below w.heap.size w w' := by
  by_cases h1 : ¬ (a.size : Int) ≤ 300
  · exact signs_la a b w hw h1
  have h1 : (a.size : Int) ≤ 300 := by omega
  by_cases h2 : ¬ (b.size : Int) ≤ 300
  · exact signs_lb a b w hw h1 h2
  have h2 : (b.size : Int) ≤ 300 := by omega
  cases ga : goodN a.data.toList with
  | false => exact signs_ga a b w hw h1 h2 ga
  | true =>
    cases gb : goodN b.data.toList with
    | false => exact signs_gb a b w hw h1 h2 ga gb
    | true =>
      have za := good_pos ga
      have zb := good_pos gb
      by_cases ma : ((a[0]'za).toNat : Int) = 45
      · exact signs_ma a b w hw h1 h2 ga gb za ma
      by_cases mb : ((b[0]'zb).toNat : Int) = 45
      · exact signs_mb a b w hw h1 h2 ga gb za ma zb mb
      have pa : Lib.hasPrefix a.data.toList [45] = false := by
        cases h : Lib.hasPrefix a.data.toList [45]
        · rfl
        · exact absurd ((head_minus za).1 h) ma
      have pb : Lib.hasPrefix b.data.toList [45] = false := by
        cases h : Lib.hasPrefix b.data.toList [45]
        · rfl
        · exact absurd ((head_minus zb).1 h) mb
      have la : a.data.toList.length < 400 := by rw [← Lib.size_eq]; omega
      have lb : b.data.toList.length < 400 := by rw [← Lib.size_eq]; omega
      have eA : ((⟨#[45]⟩ : ByteArray) ++ a).data.toList = 45 :: a.data.toList := by rw [ba_append]; rfl
      have eB : ((⟨#[45]⟩ : ByteArray) ++ b).data.toList = 45 :: b.data.toList := by rw [ba_append]; rfl
      have hr := cmpN_range a.data.toList b.data.toList
      have hz := cmp_neg_pos pa pb la lb ga gb
      exact signs_ok a b w hw h1 h2 ga gb za ma zb mb _ (cmpN (45 :: a.data.toList) b.data.toList) _ _ _ rfl rfl rfl (by rw [eA, eB]; exact cmp_neg_neg pa pb la lb ga gb) (by rw [eA]) (by omega) (by omega) (by omega) rfl (by rw [eA]; exact whole_neg pa la)
end Go.Proofs.YtkdejdmmgjibmaaDoor
