/-
  DecSays, walked: true, whatever the texts and the number. Condition: the library's variables as it lays them.
-/
import Derived.Test.YtkdejdmmgjibmaaDoorDecAwake
import Derived.Test.YtkdejdmmgjibmaaDoorRefIntAny
import Derived.Test.YtkdejdmmgjibmaaDoorRefCmpAny
import Derived.Test.YtkdejdmmgjibmaaDoorRefWhole
import Derived.Test.YtkdejdmmgjibmaaDoorRefText
import Derived.Test.YtkdejdmmgjibmaaDoorRefCanon
import Derived.Lib.ItoaLen
namespace Go.Proofs.YtkdejdmmgjibmaaDoor
open Go.RowKit
set_option linter.unusedVariables false
set_option linter.unusedSimpArgs false
set_option maxRecDepth 100000 in
set_option maxHeartbeats 1000000 in
theorem says_la (a b : ByteArray) (n : Int) (w : World) (hw : Vars w) (h1 : ¬ (a.size : Int) ≤ 500) : Calls Tryd.prog 4 #[.string a, .string b, .int .i64 n] w fun e w' => e = .returned (.bool true) ∧ Below w.heap.size w w' := by
  have HV := Lib.hid hw
  have hbb := Lib.hid (Below.refl w.heap.size w)
  clear hw
  go_enter Tryd.func4, Tryd.ntmps4
  go_wp2_with (go_at_call 9; refine (awake_any _ (HV.out.step hbb.out)).mono ?_; rintro e w1 ⟨rfl, hb1⟩; have hbb0 := hbb; clear hbb; have hbb := Lib.hid (below_then hbb0.out hbb0.out.size hb1); clear hb1 hbb0)
  all_goals (go_ret; exact ⟨rfl, hbb.out⟩)
set_option maxRecDepth 100000 in
set_option maxHeartbeats 1000000 in
theorem says_lb (a b : ByteArray) (n : Int) (w : World) (hw : Vars w) (h1 : (a.size : Int) ≤ 500) (h2 : ¬ (b.size : Int) ≤ 500) : Calls Tryd.prog 4 #[.string a, .string b, .int .i64 n] w fun e w' => e = .returned (.bool true) ∧ Below w.heap.size w w' := by
  have HV := Lib.hid hw
  have hbb := Lib.hid (Below.refl w.heap.size w)
  clear hw
  go_enter Tryd.func4, Tryd.ntmps4
  go_wp2_with (go_at_call 9; refine (awake_any _ (HV.out.step hbb.out)).mono ?_; rintro e w1 ⟨rfl, hb1⟩; have hbb0 := hbb; clear hbb; have hbb := Lib.hid (below_then hbb0.out hbb0.out.size hb1); clear hb1 hbb0)
  all_goals (go_ret; exact ⟨rfl, hbb.out⟩)
set_option maxRecDepth 100000 in
set_option maxHeartbeats 4000000 in
theorem says_ok (a b : ByteArray) (n : Int) (w : World) (hw : Vars w) (h1 : (a.size : Int) ≤ 500) (h2 : (b.size : Int) ≤ 500) (n1 : -9223372036854775808 ≤ n) (n2 : n ≤ 9223372036854775807)
    (P : ByteArray) (c : Bool) (p1 : (⟨(canonS a.data.toList).1.toArray⟩ : ByteArray) = P) (p2 : (canonS a.data.toList).2 = c)
    (i : Int) (f : Bool) (i1 : (intN a.data.toList).getD 0 = i) (i2 : (intN a.data.toList).isSome = f)
    (g : Bool) (g1 : goodN a.data.toList = g) (u : Bool) (u1 : wholeN a.data.toList = u) (x : Int) (x1 : cmpN a.data.toList b.data.toList = x)
    (T : ByteArray) (t1 : (⟨(Lib.itoa n).toArray⟩ : ByteArray) = T) :
    Calls Tryd.prog 4 #[.string a, .string b, .int .i64 n] w fun e w' => e = .returned (.bool true) ∧ Below w.heap.size w w' := by
  have HV := Lib.hid hw
  have hbb := Lib.hid (Below.refl w.heap.size w)
  have P1 := Lib.hid p1
  have P2 := Lib.hid p2
  have I1 := Lib.hid i1
  have I2 := Lib.hid i2
  have G1 := Lib.hid g1
  have U1 := Lib.hid u1
  have X1 := Lib.hid x1
  have T1 := Lib.hid t1
  clear hw p1 p2 i1 i2 g1 u1 x1 t1
  go_enter Tryd.func4, Tryd.ntmps4
  go_wp2_with (first | (go_at_call 9; refine (awake_any _ (HV.out.step hbb.out)).mono ?_; rintro e w1 ⟨rfl, hb1⟩; have hbb0 := hbb; clear hbb; have hbb := Lib.hid (below_then hbb0.out hbb0.out.size hb1); clear hb1 hbb0) | (go_at_call 11; refine (canon_any _ _ (HV.out.step hbb.out).tab).mono ?_; rintro e w1 ⟨rfl, hb1⟩; simp only [P1.out, P2.out]; have hbb0 := hbb; clear hbb; have hbb := Lib.hid (below_then hbb0.out hbb0.out.size hb1); clear hb1 hbb0) | (go_at_call 14; refine (rcanon_any _ _ (by omega)).mono ?_; rintro e w1 ⟨rfl, hb1⟩; simp only [P1.out, P2.out]; have hbb0 := hbb; clear hbb; have hbb := Lib.hid (below_then hbb0.out hbb0.out.size hb1); clear hb1 hbb0) | (go_at_call 10; refine (int_vars _ _ (HV.out.step hbb.out)).mono ?_; rintro e w1 ⟨rfl, hb1⟩; simp only [I1.out, I2.out]; have hbb0 := hbb; clear hbb; have hbb := Lib.hid (below_then hbb0.out hbb0.out.size hb1); clear hb1 hbb0) | (go_at_call 15; refine (rint_any _ _ (by omega)).mono ?_; rintro e w1 ⟨rfl, rfl⟩; simp only [I1.out, I2.out]) | (go_at_call 12; refine (good_any _ _).mono ?_; rintro e w1 ⟨rfl, hb1⟩; simp only [G1.out]; have hbb0 := hbb; clear hbb; have hbb := Lib.hid (below_then hbb0.out hbb0.out.size hb1); clear hb1 hbb0) | (go_at_call 16; refine (number_any _ _ (by omega)).mono ?_; rintro e w1 ⟨rfl, rfl⟩; simp only [G1.out]) | (go_at_call 17; refine (whole_any _ _).mono ?_; rintro e w1 ⟨rfl, hb1⟩; simp only [U1.out]; have hbb0 := hbb; clear hbb; have hbb := Lib.hid (below_then hbb0.out hbb0.out.size hb1); clear hb1 hbb0) | (go_at_call 18; refine (rwhole_any _ _ (by omega)).mono ?_; rintro e w1 ⟨rfl, rfl⟩; simp only [U1.out]) | (go_at_call 13; refine (cmp_any _ _ _).mono ?_; rintro e w1 ⟨rfl, hb1⟩; simp only [X1.out]; have hbb0 := hbb; clear hbb; have hbb := Lib.hid (below_then hbb0.out hbb0.out.size hb1); clear hb1 hbb0) | (go_at_call 19; refine (rcmp_any _ _ _ (by omega) (by omega)).mono ?_; rintro e w1 ⟨rfl, rfl⟩; simp only [X1.out]) | (go_at_call 20; refine (text_any _ _ (by omega) (by omega) (HV.out.step hbb.out).tab).mono ?_; rintro e w1 ⟨rfl, hb1⟩; simp only [T1.out]; have hbb0 := hbb; clear hbb; have hbb := Lib.hid (below_then hbb0.out hbb0.out.size hb1); clear hb1 hbb0) | (go_at_call 21; refine (rtext_any _ _ (by omega) (by omega)).mono ?_; rintro e w1 ⟨rfl, hb1⟩; simp only [T1.out]; have hbb0 := hbb; clear hbb; have hbb := Lib.hid (below_then hbb0.out hbb0.out.size hb1); clear hb1 hbb0))
  all_goals (go_ret; exact ⟨rfl, hbb.out⟩)
theorem says_walk (a b : ByteArray) (n : Int) (w : World) (hw : Vars w) (wn : (Lit.int .i64 n).wf = true) : Calls Tryd.prog 4 #[.string a, .string b, .int .i64 n] w fun e w' => e = .returned (.bool true) ∧ Below w.heap.size w w' := by
  obtain ⟨n1, n2⟩ := bounds_i64 wn
  by_cases h1 : ¬ (a.size : Int) ≤ 500
  · exact says_la a b n w hw h1
  have h1 : (a.size : Int) ≤ 500 := by omega
  by_cases h2 : ¬ (b.size : Int) ≤ 500
  · exact says_lb a b n w hw h1 h2
  have h2 : (b.size : Int) ≤ 500 := by omega
  exact says_ok a b n w hw h1 h2 n1 n2 _ _ rfl rfl _ _ rfl rfl _ rfl _ rfl _ rfl _ rfl
end Go.Proofs.YtkdejdmmgjibmaaDoor
