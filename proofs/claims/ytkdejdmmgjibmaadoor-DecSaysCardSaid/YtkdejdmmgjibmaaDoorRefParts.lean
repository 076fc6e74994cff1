/-
  The reference's parts, walked case by case. No condition beside those that name the case.
-/
import Derived.Test.YtkdejdmmgjibmaaDoorRefPow
namespace Go.Proofs.YtkdejdmmgjibmaaDoor
open Go.RowKit
set_option linter.unusedVariables false
set_option linter.unusedSimpArgs false
/-- What parts hands back. -/
def partsV (x : Option (Bool × ByteArray × ByteArray × ByteArray)) : Value := .tuple #[.bool (x.getD (false, ⟨#[]⟩, ⟨#[]⟩, ⟨#[]⟩)).1, .string (x.getD (false, ⟨#[]⟩, ⟨#[]⟩, ⟨#[]⟩)).2.1, .string (x.getD (false, ⟨#[]⟩, ⟨#[]⟩, ⟨#[]⟩)).2.2.1, .string (x.getD (false, ⟨#[]⟩, ⟨#[]⟩, ⟨#[]⟩)).2.2.2, .bool x.isSome]
set_option maxRecDepth 100000 in
set_option maxHeartbeats 2000000 in
theorem rparts_nil (s : ByteArray) (w : World) (hs : s.size ≤ 1000) (hes : s.toList = []) (hn : digN s.data.toList = 0) (Wh : ByteArray) (hWh : s.extract 0 0 = Wh) (heWh : Wh.toList = []) :
    Calls Tryd.prog 30 #[.string s] w fun e w' => e = .returned (partsV none) ∧ w' = w := by
  have hies : s.toList.isEmpty = true := by simp [hes]
  have hieWh : Wh.toList.isEmpty = true := by simp [heWh]
  have Hn := Lib.hid hn
  clear hn
  go_enter Tryd.func30, Tryd.ntmps30
  go_wp2_with (go_at_call 47; refine (rrun_any _ _ (by omega)).mono ?_; rintro e w1 ⟨rfl, hw⟩; rw [hw]; clear hw; rw [Hn.out])
  all_goals first | (refine bodyPost_ret (by simp [results, Tryd.results30, go_sem]; try rfl) rfl ?_; exact ⟨rfl, rfl⟩) | (exfalso; simp_all; done)
end Go.Proofs.YtkdejdmmgjibmaaDoor
