/-
  DecOrder, walked: true, whatever the texts. Condition: the library's variables as it lays them.
-/
import Derived.Test.YtkdejdmmgjibmaaDoorDecLaws
import Derived.Test.YtkdejdmmgjibmaaDoorDecAwake
namespace Go.Proofs.YtkdejdmmgjibmaaDoor
open Go.RowKit
set_option linter.unusedVariables false
set_option linter.unusedSimpArgs false
theorem cmpN_range (a b : List UInt8) : cmpN a b = -1 ∨ cmpN a b = 0 ∨ cmpN a b = 1 := by
  unfold cmpN
  split
  · exact .inr (.inl rfl)
  · exact .inl rfl
  · exact .inr (.inr rfl)
  · rename_i x y _ _
    unfold cmpNum
    split
    · exact compareInt_range _ _
    · rcases signN_range x with h | h | h <;> rcases sizeN_range x y with k | k | k <;> rw [h, k] <;> decide
set_option maxRecDepth 100000 in
      set_option maxHeartbeats 1000000 in
      theorem order_la (a b c : ByteArray) (w : World) (hw : Vars w) (h1 : ¬ (a.size : Int) ≤ 400) : Calls Tryd.prog 5 #[.string a, .string b, .string c] w fun e w' => e = .returned (.bool true) ∧ Below w.heap.size w w' := by
        have HV := Lib.hid hw
        have hbb := Lib.hid (Below.refl w.heap.size w)
        clear hw
        skip
        go_enter Tryd.func5, Tryd.ntmps5
        go_wp2_with (first | (go_at_call 9; refine (awake_any _ (HV.out.step hbb.out)).mono ?_; rintro e w1 ⟨rfl, hb1⟩; have hbb0 := hbb; clear hbb; have hbb := Lib.hid (below_then hbb0.out hbb0.out.size hb1); clear hb1 hbb0) | (go_at_call 12; refine (good_any _ _).mono ?_; rintro e w1 ⟨rfl, hb1⟩; (first | rw [Ga.out] | rw [Gb.out] | rw [Gc.out]); have hbb0 := hbb; clear hbb; have hbb := Lib.hid (below_then hbb0.out hbb0.out.size hb1); clear hb1 hbb0))
        all_goals (go_ret; exact ⟨rfl, hbb.out⟩)
set_option maxRecDepth 100000 in
set_option maxHeartbeats 1000000 in
theorem order_lb (a b c : ByteArray) (w : World) (hw : Vars w) (h1 : (a.size : Int) ≤ 400) (h2 : ¬ (b.size : Int) ≤ 400) : Calls Tryd.prog 5 #[.string a, .string b, .string c] w fun e w' => e = .returned (.bool true) ∧ Below w.heap.size w w' := by
  have HV := Lib.hid hw
  have hbb := Lib.hid (Below.refl w.heap.size w)
  clear hw
  skip
  go_enter Tryd.func5, Tryd.ntmps5
  go_wp2_with (first | (go_at_call 9; refine (awake_any _ (HV.out.step hbb.out)).mono ?_; rintro e w1 ⟨rfl, hb1⟩; have hbb0 := hbb; clear hbb; have hbb := Lib.hid (below_then hbb0.out hbb0.out.size hb1); clear hb1 hbb0) | (go_at_call 12; refine (good_any _ _).mono ?_; rintro e w1 ⟨rfl, hb1⟩; (first | rw [Ga.out] | rw [Gb.out] | rw [Gc.out]); have hbb0 := hbb; clear hbb; have hbb := Lib.hid (below_then hbb0.out hbb0.out.size hb1); clear hb1 hbb0))
  all_goals (go_ret; exact ⟨rfl, hbb.out⟩)
set_option maxRecDepth 100000 in
set_option maxHeartbeats 1000000 in
theorem order_lc (a b c : ByteArray) (w : World) (hw : Vars w) (h1 : (a.size : Int) ≤ 400) (h2 : (b.size : Int) ≤ 400) (h3 : ¬ (c.size : Int) ≤ 400) : Calls Tryd.prog 5 #[.string a, .string b, .string c] w fun e w' => e = .returned (.bool true) ∧ Below w.heap.size w w' := by
  have HV := Lib.hid hw
  have hbb := Lib.hid (Below.refl w.heap.size w)
  clear hw
  skip
  go_enter Tryd.func5, Tryd.ntmps5
  go_wp2_with (first | (go_at_call 9; refine (awake_any _ (HV.out.step hbb.out)).mono ?_; rintro e w1 ⟨rfl, hb1⟩; have hbb0 := hbb; clear hbb; have hbb := Lib.hid (below_then hbb0.out hbb0.out.size hb1); clear hb1 hbb0) | (go_at_call 12; refine (good_any _ _).mono ?_; rintro e w1 ⟨rfl, hb1⟩; (first | rw [Ga.out] | rw [Gb.out] | rw [Gc.out]); have hbb0 := hbb; clear hbb; have hbb := Lib.hid (below_then hbb0.out hbb0.out.size hb1); clear hb1 hbb0))
  all_goals (go_ret; exact ⟨rfl, hbb.out⟩)
set_option maxRecDepth 100000 in
set_option maxHeartbeats 1000000 in
theorem order_ga (a b c : ByteArray) (w : World) (hw : Vars w) (h1 : (a.size : Int) ≤ 400) (h2 : (b.size : Int) ≤ 400) (h3 : (c.size : Int) ≤ 400) (ga : goodN a.data.toList = false) : Calls Tryd.prog 5 #[.string a, .string b, .string c] w fun e w' => e = .returned (.bool true) ∧ Below w.heap.size w w' := by
  have HV := Lib.hid hw
  have hbb := Lib.hid (Below.refl w.heap.size w)
  clear hw
  have Ga := Lib.hid ga; clear ga
  go_enter Tryd.func5, Tryd.ntmps5
  go_wp2_with (first | (go_at_call 9; refine (awake_any _ (HV.out.step hbb.out)).mono ?_; rintro e w1 ⟨rfl, hb1⟩; have hbb0 := hbb; clear hbb; have hbb := Lib.hid (below_then hbb0.out hbb0.out.size hb1); clear hb1 hbb0) | (go_at_call 12; refine (good_any _ _).mono ?_; rintro e w1 ⟨rfl, hb1⟩; (first | rw [Ga.out] | rw [Gb.out] | rw [Gc.out]); have hbb0 := hbb; clear hbb; have hbb := Lib.hid (below_then hbb0.out hbb0.out.size hb1); clear hb1 hbb0))
  all_goals (go_ret; exact ⟨rfl, hbb.out⟩)
set_option maxRecDepth 100000 in
set_option maxHeartbeats 1000000 in
theorem order_gb (a b c : ByteArray) (w : World) (hw : Vars w) (h1 : (a.size : Int) ≤ 400) (h2 : (b.size : Int) ≤ 400) (h3 : (c.size : Int) ≤ 400) (ga : goodN a.data.toList = true) (gb : goodN b.data.toList = false) : Calls Tryd.prog 5 #[.string a, .string b, .string c] w fun e w' => e = .returned (.bool true) ∧ Below w.heap.size w w' := by
  have HV := Lib.hid hw
  have hbb := Lib.hid (Below.refl w.heap.size w)
  clear hw
  have Ga := Lib.hid ga; have Gb := Lib.hid gb; clear ga gb
  go_enter Tryd.func5, Tryd.ntmps5
  go_wp2_with (first | (go_at_call 9; refine (awake_any _ (HV.out.step hbb.out)).mono ?_; rintro e w1 ⟨rfl, hb1⟩; have hbb0 := hbb; clear hbb; have hbb := Lib.hid (below_then hbb0.out hbb0.out.size hb1); clear hb1 hbb0) | (go_at_call 12; refine (good_any _ _).mono ?_; rintro e w1 ⟨rfl, hb1⟩; (first | rw [Ga.out] | rw [Gb.out] | rw [Gc.out]); have hbb0 := hbb; clear hbb; have hbb := Lib.hid (below_then hbb0.out hbb0.out.size hb1); clear hb1 hbb0))
  all_goals (go_ret; exact ⟨rfl, hbb.out⟩)
set_option maxRecDepth 100000 in
set_option maxHeartbeats 1000000 in
theorem order_gc (a b c : ByteArray) (w : World) (hw : Vars w) (h1 : (a.size : Int) ≤ 400) (h2 : (b.size : Int) ≤ 400) (h3 : (c.size : Int) ≤ 400) (ga : goodN a.data.toList = true) (gb : goodN b.data.toList = true) (gc : goodN c.data.toList = false) : Calls Tryd.prog 5 #[.string a, .string b, .string c] w fun e w' => e = .returned (.bool true) ∧ Below w.heap.size w w' := by
  have HV := Lib.hid hw
  have hbb := Lib.hid (Below.refl w.heap.size w)
  clear hw
  have Ga := Lib.hid ga; have Gb := Lib.hid gb; have Gc := Lib.hid gc; clear ga gb gc
  go_enter Tryd.func5, Tryd.ntmps5
  go_wp2_with (first | (go_at_call 9; refine (awake_any _ (HV.out.step hbb.out)).mono ?_; rintro e w1 ⟨rfl, hb1⟩; have hbb0 := hbb; clear hbb; have hbb := Lib.hid (below_then hbb0.out hbb0.out.size hb1); clear hb1 hbb0) | (go_at_call 12; refine (good_any _ _).mono ?_; rintro e w1 ⟨rfl, hb1⟩; (first | rw [Ga.out] | rw [Gb.out] | rw [Gc.out]); have hbb0 := hbb; clear hbb; have hbb := Lib.hid (below_then hbb0.out hbb0.out.size hb1); clear hb1 hbb0))
  all_goals (go_ret; exact ⟨rfl, hbb.out⟩)
set_option maxRecDepth 100000 in
set_option maxHeartbeats 4000000 in
theorem order_ok (a b c : ByteArray) (w : World) (hw : Vars w) (h1 : (a.size : Int) ≤ 400) (h2 : (b.size : Int) ≤ 400) (h3 : (c.size : Int) ≤ 400) (ga : goodN a.data.toList = true) (gb : goodN b.data.toList = true) (gc : goodN c.data.toList = true)
    (x y z : Int) (x1 : cmpN a.data.toList b.data.toList = x) (x2 : cmpN b.data.toList c.data.toList = y) (x3 : cmpN b.data.toList a.data.toList = -x) (x4 : cmpN a.data.toList c.data.toList = z) (hz : x = y → z = x) (hxr : x = -1 ∨ x = 0 ∨ x = 1) (hyr : y = -1 ∨ y = 0 ∨ y = 1)
    (P Q : ByteArray) (p1 : (⟨(canonS a.data.toList).1.toArray⟩ : ByteArray) = P) (p2 : (canonS a.data.toList).2 = true) (q1 : (⟨(canonS b.data.toList).1.toArray⟩ : ByteArray) = Q) (q2 : (canonS b.data.toList).2 = true) (hpq : (P.toList == Q.toList) = decide (x = 0)) :
    Calls Tryd.prog 5 #[.string a, .string b, .string c] w fun e w' => e = .returned (.bool true) ∧ Below w.heap.size w w' := by
  have HV := Lib.hid hw
  have hbb := Lib.hid (Below.refl w.heap.size w)
  have Ga := Lib.hid ga
  have Gb := Lib.hid gb
  have Gc := Lib.hid gc
  have P1 := Lib.hid p1
  have P2 := Lib.hid p2
  have Q1 := Lib.hid q1
  have Q2 := Lib.hid q2
  clear hw ga gb gc p1 p2 q1 q2
  rcases hxr with rfl | rfl | rfl <;> rcases hyr with rfl | rfl | rfl <;> (first | (obtain rfl := hz rfl) | clear hz) <;>
    (have X1 := Lib.hid x1; have X2 := Lib.hid x2; have X3 := Lib.hid x3; have X4 := Lib.hid x4; clear x1 x2 x3 x4; simp only [Int.reduceNeg, Int.reduceEq, decide_true, decide_false] at hpq)
  all_goals go_enter Tryd.func5, Tryd.ntmps5
  all_goals go_wp2_with (first | (go_at_call 9; refine (awake_any _ (HV.out.step hbb.out)).mono ?_; rintro e w1 ⟨rfl, hb1⟩; have hbb0 := hbb; clear hbb; have hbb := Lib.hid (below_then hbb0.out hbb0.out.size hb1); clear hb1 hbb0) | (go_at_call 12; refine (good_any _ _).mono ?_; rintro e w1 ⟨rfl, hb1⟩; (first | rw [Ga.out] | rw [Gb.out] | rw [Gc.out]); have hbb0 := hbb; clear hbb; have hbb := Lib.hid (below_then hbb0.out hbb0.out.size hb1); clear hb1 hbb0) | (go_at_call 13; refine (cmp_any _ _ _).mono ?_; rintro e w1 ⟨rfl, hb1⟩; (first | rw [X1.out] | rw [X2.out] | rw [X3.out] | rw [X4.out]); have hbb0 := hbb; clear hbb; have hbb := Lib.hid (below_then hbb0.out hbb0.out.size hb1); clear hb1 hbb0) | (go_at_call 11; refine (canon_any _ _ (HV.out.step hbb.out).tab).mono ?_; rintro e w1 ⟨rfl, hb1⟩; (first | rw [P1.out, P2.out] | rw [Q1.out, Q2.out]); have hbb0 := hbb; clear hbb; have hbb := Lib.hid (below_then hbb0.out hbb0.out.size hb1); clear hb1 hbb0))
  all_goals (go_ret; exact ⟨rfl, hbb.out⟩)
theorem order_walk (a b c : ByteArray) (w : World) (hw : Vars w) : Calls Tryd.prog 5 #[.string a, .string b, .string c] w fun e w' => e = .returned (.bool true) ∧ Below w.heap.size w w' := by
  by_cases h1 : ¬ (a.size : Int) ≤ 400
  · exact order_la a b c w hw h1
  have h1 : (a.size : Int) ≤ 400 := by omega
  by_cases h2 : ¬ (b.size : Int) ≤ 400
  · exact order_lb a b c w hw h1 h2
  have h2 : (b.size : Int) ≤ 400 := by omega
  by_cases h3 : ¬ (c.size : Int) ≤ 400
  · exact order_lc a b c w hw h1 h2 h3
  have h3 : (c.size : Int) ≤ 400 := by omega
  cases ga : goodN a.data.toList with
  | false => exact order_ga a b c w hw h1 h2 h3 ga
  | true =>
    cases gb : goodN b.data.toList with
    | false => exact order_gb a b c w hw h1 h2 h3 ga gb
    | true =>
      cases gc : goodN c.data.toList with
      | false => exact order_gc a b c w hw h1 h2 h3 ga gb gc
      | true =>
        have hs : ∀ l : List UInt8, goodN l = true → (canonS l).2 = true := fun l h => by
          obtain ⟨x, hx⟩ := Option.isSome_iff_exists.1 h
          unfold canonS; rw [hx]
        have hc := cmp_canon ga gb
        have hpq : ((⟨(canonS a.data.toList).1.toArray⟩ : ByteArray).toList == (⟨(canonS b.data.toList).1.toArray⟩ : ByteArray).toList) = decide (cmpN a.data.toList b.data.toList = 0) := by
          rw [Lib.toList_data, Lib.toList_data, mk_list, mk_list, Bool.eq_iff_iff, beq_iff_eq, decide_eq_true_iff]
          exact hc
        exact order_ok a b c w hw h1 h2 h3 ga gb gc _ _ (cmpN a.data.toList c.data.toList) rfl rfl (cmp_anti _ _) rfl (fun h => cmp_trans3 ga gb gc rfl h.symm) (cmpN_range _ _) (cmpN_range _ _) _ _ rfl (hs _ ga) rfl (hs _ gb) hpq
end Go.Proofs.YtkdejdmmgjibmaaDoor
