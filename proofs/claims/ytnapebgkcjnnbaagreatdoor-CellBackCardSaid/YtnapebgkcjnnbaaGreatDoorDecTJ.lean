/-
  dec.Text, walked. Condition: the library's table of powers of ten reads as the library lays it.
-/
import Derived.Test.YtnapebgkcjnnbaaGreatDoorDecIJ
import Derived.Lib.AppendIntMem
import Derived.Lib.ItoaLen
namespace Go.Proofs.YtnapebgkcjnnbaaGreatDoor
open Go.RowKit
set_option linter.unusedVariables false
set_option linter.unusedSimpArgs false
set_option maxHeartbeats 1000000 in
theorem text_any (n : Int) (w : World) (h0 : -9223372036854775808 ≤ n) (h1 : n ≤ 9223372036854775807) (htab : Pow10 w) : Calls Tryz.prog 14 #[.int .i64 n] w fun e w' => e = .returned (.string ⟨(Lib.itoa n).toArray⟩) ∧ Below w.heap.size w w' := by
  have Ht := Lib.hid htab
  clear htab
  go_enter Tryz.func14, Tryz.ntmps14
  go_wp2_with (go_at_call 30; refine (Tryz.strconv_FormatInt_10 _ (by omega) (by omega) _ Ht.out).mono ?_; rintro e w1 ⟨rfl, k, os, rfl⟩)
  go_ret
  exact ⟨rfl, Lib.below_grow w.heap.size w (Nat.le_refl _) k os⟩
end Go.Proofs.YtnapebgkcjnnbaaGreatDoor
