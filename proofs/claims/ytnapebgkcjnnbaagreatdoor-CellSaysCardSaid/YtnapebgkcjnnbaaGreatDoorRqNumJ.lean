/-
  The reference's Form, Number, walked: a number's text is just dec's. Condition: a text of any length that a string has.
-/
import Derived.Test.YtnapebgkcjnnbaaGreatDoorRqPartsAnyJ
namespace Go.Proofs.YtnapebgkcjnnbaaGreatDoor
open Go.RowKit
set_option linter.unusedVariables false
set_option linter.unusedSimpArgs false
theorem rpower_all (s : ByteArray) (w : World) (hs : s.size ≤ 9223372036854775807) :
    Calls Tryz.prog 59 #[.string s] w fun e w' => e = .returned (.tuple #[.int .i64 ((rpowN s.data.toList).getD 0), .bool (rpowN s.data.toList).isSome]) ∧ w' = w :=
  rpower_any s w (by omega) _ rfl (fun h => by
    rw [ba_head1 h 45]
    exact ⟨fun k => ((byte_is (k := 45) (by decide)).1 k).symm, fun k => (byte_is (k := 45) (by decide)).2 k.symm⟩)
/-- What parts tells, and the power. -/
structure Told (l : List UInt8) (b : Bool) (W P p : ByteArray) (ok : Bool) (e : Int) (fits : Bool) : Prop where
  parts : partsV ((partsN l).map toBA) = .tuple #[.bool b, .string W, .string P, .string p, .bool ok]
  pow : (rpowN p.data.toList).getD 0 = e
  fit : (rpowN p.data.toList).isSome = fits
  good : l.length ≤ 400 → goodN l = (ok && fits)
  short : p.size ≤ l.length ∧ W.size ≤ l.length ∧ P.size ≤ l.length
  lo : -100000 ≤ e
  hi : e ≤ 100000
  num : l.length ≤ 400 → ok = true → fits = true → parseN l = some (normN b W.data.toList P.data.toList e)
  no : ok = false → b = false ∧ W = ⟨#[]⟩ ∧ P = ⟨#[]⟩ ∧ p = ⟨#[]⟩ ∧ e = 0 ∧ fits = true
theorem told (l : List UInt8) : ∃ b W P p ok e fits, Told l b W P p ok e fits := by
  cases hq : partsN l with
  | none =>
    refine ⟨false, ⟨#[]⟩, ⟨#[]⟩, ⟨#[]⟩, false, 0, true, by rw [hq]; rfl, rfl, rfl, fun hl => ?_, ⟨Nat.zero_le _, Nat.zero_le _, Nat.zero_le _⟩, (by omega), (by omega), (fun _ h => (by cases h)), fun _ => ⟨rfl, rfl, rfl, rfl, rfl, rfl⟩⟩
    unfold goodN; rw [parse_parts hl, hq]; rfl
  | some q =>
    obtain ⟨b, W, P, p⟩ := q
    have hlen := parts_len hq
    obtain ⟨h1, h2, h3⟩ := hlen
    simp only at h1 h2 h3
    refine ⟨b, ⟨W.toArray⟩, ⟨P.toArray⟩, ⟨p.toArray⟩, true, (rpowN p).getD 0, (rpowN p).isSome, by rw [hq]; rfl, rfl, rfl, fun hl => ?_, ⟨by rw [Lib.size_eq]; exact h3, by rw [Lib.size_eq]; exact h1, by rw [Lib.size_eq]; exact h2⟩, (rpow_range rfl).1, (rpow_range rfl).2, fun hl _ hf => ?_, fun h => (by cases h)⟩
    · unfold goodN; rw [parse_parts hl, hq]
      show (Option.map _ (rpowN p)).isSome = _
      cases rpowN p <;> rfl
    · rw [parse_parts hl, hq]
      show Option.map _ (rpowN p) = _
      obtain ⟨e, he⟩ := Option.isSome_iff_exists.1 hf
      rw [he]; rfl
set_option maxHeartbeats 1000000 in
theorem form_any (s : ByteArray) (w : World) (hs : s.size ≤ 9223372036854775807) (b ok fits : Bool) (W P p : ByteArray) (ev : Int) (h : Told s.data.toList b W P p ok ev fits) :
    Calls Tryz.prog 38 #[.string s] w fun e w' => e = .returned (.tuple #[.bool ok, .bool (ok && !fits)]) ∧ w' = w := by
  have HP := Lib.hid h.parts
  have HE := Lib.hid h.pow
  have HF := Lib.hid h.fit
  have hps : p.size ≤ 9223372036854775807 := Nat.le_trans h.short.1 (by rw [← Lib.size_eq]; exact hs)
  clear h
  cases ok
  · go_enter Tryz.func38, Tryz.ntmps38
    go_wp2_with (first | (go_at_call 58; refine (rparts_any _ _ hs).mono ?_; rintro e w1 ⟨rfl, hw⟩; rw [hw, HP.out]; clear hw) | (go_at_call 59; refine (rpower_all _ _ (by omega)).mono ?_; rintro e w1 ⟨rfl, hw⟩; rw [hw, HE.out, HF.out]; clear hw))
    go_ret2
    exact ⟨rfl, rfl⟩
  · cases fits
    · go_enter Tryz.func38, Tryz.ntmps38
      go_wp2_with (first | (go_at_call 58; refine (rparts_any _ _ hs).mono ?_; rintro e w1 ⟨rfl, hw⟩; rw [hw, HP.out]; clear hw) | (go_at_call 59; refine (rpower_all _ _ (by omega)).mono ?_; rintro e w1 ⟨rfl, hw⟩; rw [hw, HE.out, HF.out]; clear hw))
      go_ret2
      exact ⟨rfl, rfl⟩
    · go_enter Tryz.func38, Tryz.ntmps38
      go_wp2_with (first | (go_at_call 58; refine (rparts_any _ _ hs).mono ?_; rintro e w1 ⟨rfl, hw⟩; rw [hw, HP.out]; clear hw) | (go_at_call 59; refine (rpower_all _ _ (by omega)).mono ?_; rintro e w1 ⟨rfl, hw⟩; rw [hw, HE.out, HF.out]; clear hw))
      go_ret2
      exact ⟨rfl, rfl⟩
set_option maxHeartbeats 1000000 in
theorem number_any (s : ByteArray) (w : World) (hs : s.size ≤ 9223372036854775807) :
    Calls Tryz.prog 24 #[.string s] w fun e w' => e = .returned (.bool (goodN s.data.toList)) ∧ w' = w := by
  obtain ⟨b, W, P, p, ok, ev, fits, h⟩ := told s.data.toList
  have hF := fun V => form_any s V hs b ok fits W P p ev h
  have HFm := Lib.hid hF
  by_cases hl : (s.size : Int) ≤ 400
  · have hg := h.good (by rw [← Lib.size_eq]; omega)
    rw [hg]
    clear h hg hF
    cases ok <;> cases fits <;>
    (go_enter Tryz.func24, Tryz.ntmps24
     go_wp2_with (go_at_call 38; refine (HFm.out _).mono ?_; rintro e w1 ⟨rfl, hw⟩; rw [hw]; clear hw)
     go_ret
     exact ⟨rfl, rfl⟩)
  · have hg : goodN s.data.toList = false := by
      unfold goodN parseN
      rw [if_pos (by rw [← Lib.size_eq]; omega)]; rfl
    rw [hg]
    have hgt : decide ((s.size : Int) ≤ 400) = false := by simp; omega
    clear h hg hF
    cases ok <;> cases fits <;>
    (go_enter Tryz.func24, Tryz.ntmps24
     go_wp2_with (go_at_call 38; refine (HFm.out _).mono ?_; rintro e w1 ⟨rfl, hw⟩; rw [hw]; clear hw)
     go_ret
     exact ⟨rfl, rfl⟩)
end Go.Proofs.YtnapebgkcjnnbaaGreatDoor
