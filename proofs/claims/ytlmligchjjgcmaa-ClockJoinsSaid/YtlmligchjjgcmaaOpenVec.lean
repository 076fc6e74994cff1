/-
  A [64]int64 handed to a law, opened: it is 64 numbers. No condition.
-/
import Derived.Test.YtlmligchjjgcmaaClkBase
import Derived.OpenShut
import Derived.WideShapes
import Derived.Lib.SmallJoins
namespace Go.Proofs.Ytlmligchjjgcmaa
open Go.ChangeShapes Go.WideShapes Go.ChangeAt Go.RowKit
set_option linter.unusedVariables false
section
variable {H : Type} {enc : TypeId × Value → H} {P : Program} {w : World} {base : Nat} {spare : Nat → Bool} {held : Bool}
theorem vcells_of (cs : List Value) (h : ∀ i, i < cs.length → ∃ a : Int, cs[i]? = some (.int .i64 a)) : ∃ l : List Int, cs.toArray = vcells l ∧ l.length = cs.length := by
  induction cs with
  | nil => exact ⟨[], rfl, rfl⟩
  | cons c cs ih =>
    obtain ⟨a, ha⟩ := h 0 (by simp)
    obtain ⟨l, hl, hn⟩ := ih (fun i hi => by obtain ⟨b, hb⟩ := h (i + 1) (by simp; omega); exact ⟨b, by simpa using hb⟩)
    simp at ha
    refine ⟨a :: l, ?_, by simp [hn]⟩
    have : cs = l.map (Value.int .i64) := by simpa [vcells] using hl
    simp [vcells, ha, this]
theorem open_vec {r : Reach} {b0 : Nat} {t e : TypeId} {v : Value} {d : DataW H} {p : List MemPlace} (hs : P.underlying t = some (.array 64 e)) (he : P.underlying e = some (.int .i64)) (hce : P.cellsOf e = 1) (hC : P.cellsOf t = 64)
    (hv : Value.okWide P w r b0 t v) (h : DataW.Trod enc P w base spare held t v d p) : ∃ l : List Int, v = .agg (vcells l) ∧ l.length = 64 := by
  have hv' : ∃ cs, v = .agg cs ∧ cs.size = P.cellsOf t := by
    simp only [Value.okWide, hs] at hv
    obtain ⟨cs, h1, h2, _⟩ := hv
    exact ⟨cs, h1, h2⟩
  obtain ⟨cs, rfl, hsz⟩ := hv'
  rw [hC] at hsz
  obtain ⟨fuel, hf⟩ := h
  obtain ⟨xs, m, _, _, _, hxl, hx⟩ := DataW.trod_array hs hf
  obtain ⟨l, hl, hn⟩ := vcells_of cs.toList (fun i hi => by
    have hi' : i < 64 := by simpa [hsz] using hi
    have h1 := hx i hi'
    rw [hce] at h1
    have h2 : xs[i]? = some xs[i] := List.getElem?_eq_getElem (by omega)
    rw [h2] at h1
    obtain ⟨a, ha, _⟩ := DataW.trod_int he h1
    refine ⟨a, ?_⟩
    have h3 : ((cs.toList.drop i).take 1)[0]? = some (.int .i64 a) := by
      have : (Value.agg cs).cells.toList = cs.toList := rfl
      rw [this, Nat.mul_one] at ha
      rw [ha]; rfl
    simpa using h3)
  exact ⟨l, by simpa using hl, by simpa [hsz] using hn⟩
end
end Go.Proofs.Ytlmligchjjgcmaa
