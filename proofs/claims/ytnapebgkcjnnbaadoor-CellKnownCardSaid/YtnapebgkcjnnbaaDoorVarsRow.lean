/-
  From a row's list of the library's variables to what they hold. No condition.
-/
import Derived.Test.YtnapebgkcjnnbaaDoorRows
import Derived.Test.YtnapebgkcjnnbaaDoorDecI
import Derived.Stop.LaidErr
import Derived.MakeChecks
import Derived.Lib.LaidTab
namespace Go.Proofs.YtnapebgkcjnnbaaDoor
open Go.RowKit Go.ChangeShapes
theorem gPow : Tryd.prog.globalNamed "internal/strconv.uint64pow10" = some 0 := by kernel_rfl
theorem gPowT : (Tryd.prog.globals[(0 : Nat)]?).map (·.type) = some 90 := by kernel_rfl
theorem gRng : Tryd.prog.globalNamed "strconv.ErrRange" = some 2 := by kernel_rfl
theorem gRngT : (Tryd.prog.globals[(2 : Nat)]?).map (·.type) = some 66 := by kernel_rfl
theorem gSyn : Tryd.prog.globalNamed "strconv.ErrSyntax" = some 1 := by kernel_rfl
theorem gSynT : (Tryd.prog.globals[(1 : Nat)]?).map (·.type) = some 66 := by kernel_rfl
theorem rowErr (u : TypeId) (h : Tryd.prog.typeName? 3 u = some "*errors.errorString") : u = 120 :=
  have star : "*" ++ "errors.errorString" = "*errors.errorString" := by decide
  typeName_ptr_named (nm := "errors.errorString") (by rw [star]; kernel_rfl) (by kernel_rfl) (by decide) u (by rw [star]; exact h)
theorem vars_of_laid {W : World} (h0 : laidMetH Tryd.prog Rows.cellKnownRow.laid W) : Vars W := by
  rw [MakeChecks.laidMetH_plain _ _ _ (by kernel_rfl)] at h0
  have h2 := h0.tail.tail
  have h4 := h2.tail.tail
  have h5 := h4.tail
  have e : Rows.laid_internal_strconv_uint64pow10 (H := Unit) = Lib.tabData .u64 Lib.pow10Tab := by kernel_rfl
  refine ⟨?_, ?_, ?_⟩
  · have h2' : laidMet Tryd.prog (("internal/strconv.uint64pow10", Lib.tabData .u64 Lib.pow10Tab) :: _) W := e ▸ h2
    exact Lib.tabIs_of_head gPow gPowT Tryd.underlying90 Tryd.underlying73 (by kernel_rfl) (by kernel_rfl) h2'
  · obtain ⟨a, s, hv, _⟩ := laid_sentinel h5 gSyn gSynT Tryd.underlying66 rowErr Tryd.underlying120 Tryd.underlying122 rfl rfl Tryd.underlying9 (by kernel_rfl) (by kernel_rfl)
    exact ⟨_, _, hv⟩
  · obtain ⟨a, s, hv, _⟩ := laid_sentinel h4 gRng gRngT Tryd.underlying66 rowErr Tryd.underlying120 Tryd.underlying122 rfl rfl Tryd.underlying9 (by kernel_rfl) (by kernel_rfl)
    exact ⟨_, _, hv⟩
end Go.Proofs.YtnapebgkcjnnbaaDoor
