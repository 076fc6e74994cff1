/-
  From a row's list of the library's variables to what they hold. No condition.
-/
import Derived.Test.YtnapebgkcjnnbaaGreatDoorRows
import Derived.Test.YtnapebgkcjnnbaaGreatDoorDecIJ
import Derived.Stop.LaidErr
import Derived.MakeChecks
import Derived.Lib.LaidTab
namespace Go.Proofs.YtnapebgkcjnnbaaGreatDoor
open Go.RowKit Go.ChangeShapes
theorem gPow : Tryz.prog.globalNamed "internal/strconv.uint64pow10" = some 0 := by kernel_rfl
theorem gPowT : (Tryz.prog.globals[(0 : Nat)]?).map (·.type) = some 102 := by kernel_rfl
theorem gRng : Tryz.prog.globalNamed "strconv.ErrRange" = some 2 := by kernel_rfl
theorem gRngT : (Tryz.prog.globals[(2 : Nat)]?).map (·.type) = some 76 := by kernel_rfl
theorem gSyn : Tryz.prog.globalNamed "strconv.ErrSyntax" = some 1 := by kernel_rfl
theorem gSynT : (Tryz.prog.globals[(1 : Nat)]?).map (·.type) = some 76 := by kernel_rfl
theorem rowErr (u : TypeId) (h : Tryz.prog.typeName? 3 u = some "*errors.errorString") : u = 132 :=
  have star : "*" ++ "errors.errorString" = "*errors.errorString" := by decide
  typeName_ptr_named (nm := "errors.errorString") (by rw [star]; kernel_rfl) (by kernel_rfl) (by decide) u (by rw [star]; exact h)
theorem vars_of_laid {W : World} (h0 : laidMetH Tryz.prog Rows.cellBackRow.laid W) : Vars W := by
  rw [MakeChecks.laidMetH_plain _ _ _ (by kernel_rfl)] at h0
  have h2 := h0.tail.tail
  have h4 := h2.tail.tail
  have h5 := h4.tail
  have e : Rows.laid_internal_strconv_uint64pow10 (H := Unit) = Lib.tabData .u64 Lib.pow10Tab := by kernel_rfl
  refine ⟨?_, ?_, ?_⟩
  · have h2' : laidMet Tryz.prog (("internal/strconv.uint64pow10", Lib.tabData .u64 Lib.pow10Tab) :: _) W := e ▸ h2
    exact Lib.tabIs_of_head gPow gPowT Tryz.underlying102 Tryz.underlying85 (by kernel_rfl) (by kernel_rfl) h2'
  · obtain ⟨a, s, hv, _⟩ := laid_sentinel h5 gSyn gSynT Tryz.underlying76 rowErr Tryz.underlying132 Tryz.underlying134 rfl rfl Tryz.underlying9 (by kernel_rfl) (by kernel_rfl)
    exact ⟨_, _, hv⟩
  · obtain ⟨a, s, hv, _⟩ := laid_sentinel h4 gRng gRngT Tryz.underlying76 rowErr Tryz.underlying132 Tryz.underlying134 rfl rfl Tryz.underlying9 (by kernel_rfl) (by kernel_rfl)
    exact ⟨_, _, hv⟩
end Go.Proofs.YtnapebgkcjnnbaaGreatDoor
