/-
  The reference's Whole, Text, walked. Condition: a text of at most 1000 bytes; a number that an int64 holds.
-/
import Derived.Test.YtkdejdmmgjibmaaDoorRefScl
import Derived.Test.YtkdejdmmgjibmaaDoorDecAscii
import Derived.Test.YtkdejdmmgjibmaaDoorDecText
namespace Go.Proofs.YtkdejdmmgjibmaaDoor
open Go.RowKit
set_option linter.unusedVariables false
set_option linter.unusedSimpArgs false
theorem app_size0 (a b : ByteArray) : (a ++ b).size = a.size + b.size := by rw [Lib.size_eq, ba_append, List.length_append, ← Lib.size_eq, ← Lib.size_eq]
theorem scaled_good (s : ByteArray) (w : World) (x : Num) (hx : parseN s.data.toList = some x) :
    Calls Tryd.prog 29 #[.string s] w fun e w' => e = .returned (.tuple #[.bool x.1, .string ⟨x.2.1.toArray⟩, .int .i64 x.2.2]) ∧ w' = w := by
  have hl := (parse_asc hx).1
  have hs : s.size ≤ 400 := by rw [Lib.size_eq]; exact hl
  obtain ⟨b, W, P, p, ok, ev, fits, h⟩ := told s.data.toList
  have hg := h.good hl
  have hg2 : goodN s.data.toList = true := by unfold goodN; rw [hx]; rfl
  rw [hg2] at hg
  have hof : ok = true ∧ fits = true := by
    cases ok <;> cases fits <;> simp at hg ⊢
  have hn := h.num hl hof.1 hof.2
  rw [hx] at hn
  have hxe := Option.some.inj hn
  have hW := h.short.2.1
  have hP := h.short.2.2
  have k := scaled_any s w (by omega) b ok fits W P p ev h (W ++ P) rfl (by rw [app_size0]; omega)
  rw [← hxe] at k
  exact k
set_option maxHeartbeats 1000000 in
theorem rwhole_any (s : ByteArray) (w : World) (hs : s.size ≤ 1000) : Calls Tryd.prog 18 #[.string s] w fun e w' => e = .returned (.bool (wholeN s.data.toList)) ∧ w' = w := by
  unfold wholeN
  cases hp0 : parseN s.data.toList with
  | none =>
    have hg : goodN s.data.toList = false := by unfold goodN; rw [hp0]; rfl
    have HG := Lib.hid hg
    clear hg hp0
    go_enter Tryd.func18, Tryd.ntmps18
    go_wp2_with (go_at_call 16; refine (number_any _ _ hs).mono ?_; rintro e w1 ⟨rfl, hw⟩; rw [hw, HG.out]; clear hw)
    go_ret
    exact ⟨rfl, rfl⟩
  | some x =>
    have hg : goodN s.data.toList = true := by unfold goodN; rw [hp0]; rfl
    have HG := Lib.hid hg
    have hsh := parse_shape hp0
    have hc := fun V => scaled_good s V x hp0
    obtain ⟨b, D, p⟩ := x
    obtain ⟨T, hT⟩ : ∃ T : ByteArray, (⟨D.toArray⟩ : ByteArray) = T := ⟨_, rfl⟩
    have hTl : T.data.toList = D := by rw [← hT]
    have hDs : D.length = T.size := by rw [← hTl, ← Lib.size_eq]
    have hTs : (T.size : Int) ≤ 800 := by rw [← hDs]; have := hsh.len; simp only at this; omega
    have hlo := hsh.lo
    have hhi := hsh.hi
    simp only at hlo hhi
    simp only [hT] at hc
    have HC := Lib.hid hc
    by_cases he : T.toList = []
    · have hie : T.toList.isEmpty = true := by simp [he]
      have hr : (decide (D = []) || decide (((D.length : Int) - 1) ≤ p)) = true := by simp [← hTl, ba_nil he]
      show Calls _ _ _ _ fun e w' => e = .returned (.bool (decide (D = []) || decide (((D.length : Int) - 1) ≤ p))) ∧ _
      rw [hr]
      clear hr hTl hDs hT hg hp0 hsh hc
      go_enter Tryd.func18, Tryd.ntmps18
      go_wp2_with (first | (go_at_call 16; refine (number_any _ _ hs).mono ?_; rintro e w1 ⟨rfl, hw⟩; rw [hw, HG.out]; clear hw) | (go_at_call 29; refine (HC.out _).mono ?_; rintro e w1 ⟨rfl, hw⟩; rw [hw]; clear hw))
      go_ret
      exact ⟨rfl, rfl⟩
    · have hie : T.toList.isEmpty = false := by simp [he]
      have h1 : ¬ D = [] := by rw [← hTl]; exact ba_nn he
      have hr : (decide (D = []) || decide (((D.length : Int) - 1) ≤ p)) = decide ((T.size : Int) - 1 ≤ p) := by simp [h1, hDs]
      show Calls _ _ _ _ fun e w' => e = .returned (.bool (decide (D = []) || decide (((D.length : Int) - 1) ≤ p))) ∧ _
      rw [hr]
      clear hr h1 hTl hDs hT hg hp0 hsh hc
      go_enter Tryd.func18, Tryd.ntmps18
      go_wp2_with (first | (go_at_call 16; refine (number_any _ _ hs).mono ?_; rintro e w1 ⟨rfl, hw⟩; rw [hw, HG.out]; clear hw) | (go_at_call 29; refine (HC.out _).mono ?_; rintro e w1 ⟨rfl, hw⟩; rw [hw]; clear hw))
      go_ret
      exact ⟨rfl, rfl⟩
end Go.Proofs.YtkdejdmmgjibmaaDoor
