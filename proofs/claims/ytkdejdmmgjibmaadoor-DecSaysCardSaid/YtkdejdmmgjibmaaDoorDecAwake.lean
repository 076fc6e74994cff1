/-
  Law 3's awake and DecKnown, walked: true. Condition: the library's variables as it lays them.
-/
import Derived.Test.YtkdejdmmgjibmaaDoorDecAw
import Derived.Lib.QuietBelow
namespace Go.Proofs.YtkdejdmmgjibmaaDoor
open Go.RowKit
set_option linter.unusedVariables false
set_option linter.unusedSimpArgs false
set_option maxRecDepth 100000 in
set_option maxHeartbeats 1000000 in
theorem awake_any (w : World) (hw : Vars w) : Calls Tryd.prog 9 #[] w fun e w' => e = .returned (.bool true) ∧ Below w.heap.size w w' := by
  have HV := Lib.hid hw
  have hbb := Lib.hid (Below.refl w.heap.size w)
  clear hw
  go_enter Tryd.func9, Tryd.ntmps9
  go_wp2_with (first | (go_at_call 11; with_reducible (refine (aw_c1 _ (HV.out.step hbb.out)).mono ?_); rintro e w1 ⟨rfl, hb1⟩; have hbb0 := hbb; clear hbb; have hbb := Lib.hid (below_then hbb0.out hbb0.out.size hb1); clear hb1 hbb0) | (go_at_call 11; with_reducible (refine (aw_c2 _ (HV.out.step hbb.out)).mono ?_); rintro e w1 ⟨rfl, hb1⟩; have hbb0 := hbb; clear hbb; have hbb := Lib.hid (below_then hbb0.out hbb0.out.size hb1); clear hb1 hbb0) | (go_at_call 10; with_reducible (refine (aw_i1 _ (HV.out.step hbb.out)).mono ?_); rintro e w1 ⟨rfl, hb1⟩; have hbb0 := hbb; clear hbb; have hbb := Lib.hid (below_then hbb0.out hbb0.out.size hb1); clear hb1 hbb0) | (go_at_call 13; with_reducible (refine (aw_m1 _).mono ?_); rintro e w1 ⟨rfl, hb1⟩; have hbb0 := hbb; clear hbb; have hbb := Lib.hid (below_then hbb0.out hbb0.out.size hb1); clear hb1 hbb0) | (go_at_call 13; with_reducible (refine (aw_m2 _).mono ?_); rintro e w1 ⟨rfl, hb1⟩; have hbb0 := hbb; clear hbb; have hbb := Lib.hid (below_then hbb0.out hbb0.out.size hb1); clear hb1 hbb0) | (go_at_call 20; with_reducible (refine (aw_t1 _ (HV.out.step hbb.out)).mono ?_); rintro e w1 ⟨rfl, hb1⟩; have hbb0 := hbb; clear hbb; have hbb := Lib.hid (below_then hbb0.out hbb0.out.size hb1); clear hb1 hbb0) | (go_at_call 12; with_reducible (refine (aw_g1 _).mono ?_); rintro e w1 ⟨rfl, hb1⟩; have hbb0 := hbb; clear hbb; have hbb := Lib.hid (below_then hbb0.out hbb0.out.size hb1); clear hb1 hbb0) | (go_at_call 17; with_reducible (refine (aw_w1 _).mono ?_); rintro e w1 ⟨rfl, hb1⟩; have hbb0 := hbb; clear hbb; have hbb := Lib.hid (below_then hbb0.out hbb0.out.size hb1); clear hb1 hbb0) | (go_at_call 17; with_reducible (refine (aw_w2 _).mono ?_); rintro e w1 ⟨rfl, hb1⟩; have hbb0 := hbb; clear hbb; have hbb := Lib.hid (below_then hbb0.out hbb0.out.size hb1); clear hb1 hbb0))
  go_ret
  exact ⟨rfl, hbb.out⟩
set_option maxRecDepth 100000 in
set_option maxHeartbeats 1000000 in
theorem known_walk (w : World) (hw : Vars w) : Calls Tryd.prog 3 #[] w fun e w' => e = .returned (.bool true) ∧ Below w.heap.size w w' := by
  have HV := Lib.hid hw
  have hbb := Lib.hid (Below.refl w.heap.size w)
  clear hw
  go_enter Tryd.func3, Tryd.ntmps3
  go_wp2_with (first | (go_at_call 9; with_reducible (refine (awake_any _ (HV.out.step hbb.out)).mono ?_); rintro e w1 ⟨rfl, hb1⟩; have hbb0 := hbb; clear hbb; have hbb := Lib.hid (below_then hbb0.out hbb0.out.size hb1); clear hb1 hbb0) | (go_at_call 11; with_reducible (refine (kn_c1 _ (HV.out.step hbb.out)).mono ?_); rintro e w1 ⟨rfl, hb1⟩; have hbb0 := hbb; clear hbb; have hbb := Lib.hid (below_then hbb0.out hbb0.out.size hb1); clear hb1 hbb0) | (go_at_call 10; with_reducible (refine (kn_i1 _ (HV.out.step hbb.out)).mono ?_); rintro e w1 ⟨rfl, hb1⟩; have hbb0 := hbb; clear hbb; have hbb := Lib.hid (below_then hbb0.out hbb0.out.size hb1); clear hb1 hbb0) | (go_at_call 10; with_reducible (refine (kn_i2 _ (HV.out.step hbb.out)).mono ?_); rintro e w1 ⟨rfl, hb1⟩; have hbb0 := hbb; clear hbb; have hbb := Lib.hid (below_then hbb0.out hbb0.out.size hb1); clear hb1 hbb0) | (go_at_call 10; with_reducible (refine (kn_i3 _ (HV.out.step hbb.out)).mono ?_); rintro e w1 ⟨rfl, hb1⟩; have hbb0 := hbb; clear hbb; have hbb := Lib.hid (below_then hbb0.out hbb0.out.size hb1); clear hb1 hbb0) | (go_at_call 12; with_reducible (refine (kn_g1 _).mono ?_); rintro e w1 ⟨rfl, hb1⟩; have hbb0 := hbb; clear hbb; have hbb := Lib.hid (below_then hbb0.out hbb0.out.size hb1); clear hb1 hbb0) | (go_at_call 12; with_reducible (refine (kn_g2 _).mono ?_); rintro e w1 ⟨rfl, hb1⟩; have hbb0 := hbb; clear hbb; have hbb := Lib.hid (below_then hbb0.out hbb0.out.size hb1); clear hb1 hbb0) | (go_at_call 12; with_reducible (refine (kn_g3 _).mono ?_); rintro e w1 ⟨rfl, hb1⟩; have hbb0 := hbb; clear hbb; have hbb := Lib.hid (below_then hbb0.out hbb0.out.size hb1); clear hb1 hbb0) | (go_at_call 12; with_reducible (refine (kn_g4 _).mono ?_); rintro e w1 ⟨rfl, hb1⟩; have hbb0 := hbb; clear hbb; have hbb := Lib.hid (below_then hbb0.out hbb0.out.size hb1); clear hb1 hbb0) | (go_at_call 12; with_reducible (refine (kn_g5 _).mono ?_); rintro e w1 ⟨rfl, hb1⟩; have hbb0 := hbb; clear hbb; have hbb := Lib.hid (below_then hbb0.out hbb0.out.size hb1); clear hb1 hbb0) | (go_at_call 12; with_reducible (refine (kn_g6 _).mono ?_); rintro e w1 ⟨rfl, hb1⟩; have hbb0 := hbb; clear hbb; have hbb := Lib.hid (below_then hbb0.out hbb0.out.size hb1); clear hb1 hbb0) | (go_at_call 12; with_reducible (refine (kn_g7 _).mono ?_); rintro e w1 ⟨rfl, hb1⟩; have hbb0 := hbb; clear hbb; have hbb := Lib.hid (below_then hbb0.out hbb0.out.size hb1); clear hb1 hbb0) | (go_at_call 13; with_reducible (refine (kn_m1 _).mono ?_); rintro e w1 ⟨rfl, hb1⟩; have hbb0 := hbb; clear hbb; have hbb := Lib.hid (below_then hbb0.out hbb0.out.size hb1); clear hb1 hbb0) | (go_at_call 13; with_reducible (refine (kn_m2 _).mono ?_); rintro e w1 ⟨rfl, hb1⟩; have hbb0 := hbb; clear hbb; have hbb := Lib.hid (below_then hbb0.out hbb0.out.size hb1); clear hb1 hbb0))
  go_ret
  exact ⟨rfl, hbb.out⟩
end Go.Proofs.YtkdejdmmgjibmaaDoor
