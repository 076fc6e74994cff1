/-
  The reference's Form, Number, walked: a number's text is just dec's. Condition: a text of at most 1000 bytes.
-/
import Derived.Test.YtkdejdmmgjibmaaDoorRefPartsAny
import Derived.Test.YtkdejdmmgjibmaaDoorDecFns
namespace Go.Proofs.YtkdejdmmgjibmaaDoor
open Go.RowKit
set_option linter.unusedVariables false
set_option linter.unusedSimpArgs false
theorem rpower_all (s : ByteArray) (w : World) (hs : s.size ≤ 1000) :
    Calls Tryd.prog 46 #[.string s] w fun e w' => e = .returned (.tuple #[.int .i64 ((rpowN s.data.toList).getD 0), .bool (rpowN s.data.toList).isSome]) ∧ w' = w :=
  rpower_any s w (by omega) _ rfl (fun h => by
    rw [ba_head1 h 45]
    exact ⟨fun k => ((byte_is (k := 45) (by decide)).1 k).symm, fun k => (byte_is (k := 45) (by decide)).2 k.symm⟩)
/-- What parts tells, and the power. -/
structure Told (l : List UInt8) (b : Bool) (W P p : ByteArray) (ok : Bool) (e : Int) (fits : Bool) : Prop where
  parts : partsV ((partsN l).map toBA) = .tuple #[.bool b, .string W, .string P, .string p, .bool ok]
  pow : (rpowN p.data.toList).getD 0 = e
  fit : (rpowN p.data.toList).isSome = fits
  good : l.length ≤ 400 → goodN l = (ok && fits)
  short : p.size ≤ l.length ∧ W.size ≤ l.length ∧ P.size ≤ l.length
  lo : -100000 ≤ e
  hi : e ≤ 100000
  num : l.length ≤ 400 → ok = true → fits = true → parseN l = some (normN b W.data.toList P.data.toList e)
  no : ok = false → b = false ∧ W = ⟨#[]⟩ ∧ P = ⟨#[]⟩ ∧ p = ⟨#[]⟩ ∧ e = 0 ∧ fits = true
theorem rAcc_le {v a : Nat} {l : List UInt8} (hv : v ≤ 100000) (h : rAcc v l = some a) : a ≤ 100000 := by
  induction l generalizing v with
  | nil => simp [rAcc] at h; omega
  | cons c l ih =>
    unfold rAcc at h
    split at h
    · split at h
      · cases h
      · exact ih (by omega) h
    · exact ih hv h
theorem rpow_range {l : List UInt8} {e : Int} (h : (rpowN l).getD 0 = e) : -100000 ≤ e ∧ e ≤ 100000 := by
  unfold rpowN at h
  cases hp : rAcc 0 l with
  | none => rw [hp] at h; simp at h; omega
  | some a =>
    rw [hp] at h
    have := rAcc_le (by omega) hp
    simp at h
    split at h <;> omega
theorem parts_len {l : List UInt8} {q : Bool × List UInt8 × List UInt8 × List UInt8} (h : partsN l = some q) : q.2.1.length ≤ l.length ∧ q.2.2.1.length ≤ l.length ∧ q.2.2.2.length ≤ l.length := by
  unfold partsN at h
  split at h
  · cases h
  obtain ⟨pr, hpr, h⟩ := Option.bind_eq_some_iff.1 h
  obtain ⟨p, hp, h⟩ := Option.map_eq_some_iff.1 h
  subst h
  have hR := Lib.trimPrefix_le l [45]
  have h2 : pr.1.length ≤ l.length ∧ pr.2.length ≤ l.length := by
    unfold partN at hpr
    split at hpr
    · split at hpr
      · cases hpr
      · cases hpr
        simp only [List.length_take, List.length_drop]; omega
    · cases hpr
      simp only [List.length_nil, List.length_drop]; omega
  have h3 : p.length ≤ pr.2.length := by
    cases hq : pr.2 with
    | nil => rw [hq] at hp; cases hp; simp
    | cons c r =>
      rw [hq] at hp
      have e : tailN (c :: r) = if (c = 101 ∨ c = 69) ∧ formP r = true then some r else none := rfl
      rw [e] at hp
      split at hp
      · cases hp; simp
      · cases hp
  refine ⟨?_, h2.1, Nat.le_trans h3 h2.2⟩
  simp only [List.length_take]; omega
theorem told (l : List UInt8) : ∃ b W P p ok e fits, Told l b W P p ok e fits := by
  cases hq : partsN l with
  | none =>
    refine ⟨false, ⟨#[]⟩, ⟨#[]⟩, ⟨#[]⟩, false, 0, true, by rw [hq]; rfl, rfl, rfl, fun hl => ?_, ⟨Nat.zero_le _, Nat.zero_le _, Nat.zero_le _⟩, (by omega), (by omega), (fun _ h => (by cases h)), fun _ => ⟨rfl, rfl, rfl, rfl, rfl, rfl⟩⟩
    unfold goodN; rw [parse_parts hl, hq]; rfl
  | some q =>
    obtain ⟨b, W, P, p⟩ := q
    have hlen := parts_len hq
    obtain ⟨h1, h2, h3⟩ := hlen
    simp only at h1 h2 h3
    refine ⟨b, ⟨W.toArray⟩, ⟨P.toArray⟩, ⟨p.toArray⟩, true, (rpowN p).getD 0, (rpowN p).isSome, by rw [hq]; rfl, rfl, rfl, fun hl => ?_, ⟨by rw [Lib.size_eq]; exact h3, by rw [Lib.size_eq]; exact h1, by rw [Lib.size_eq]; exact h2⟩, (rpow_range rfl).1, (rpow_range rfl).2, fun hl _ hf => ?_, fun h => (by cases h)⟩
    · unfold goodN; rw [parse_parts hl, hq]
      show (Option.map _ (rpowN p)).isSome = _
      cases rpowN p <;> rfl
    · rw [parse_parts hl, hq]
      show Option.map _ (rpowN p) = _
      obtain ⟨e, he⟩ := Option.isSome_iff_exists.1 hf
      rw [he]; rfl
set_option maxHeartbeats 1000000 in
theorem form_any (s : ByteArray) (w : World) (hs : s.size ≤ 1000) (b ok fits : Bool) (W P p : ByteArray) (ev : Int) (h : Told s.data.toList b W P p ok ev fits) :
    Calls Tryd.prog 31 #[.string s] w fun e w' => e = .returned (.tuple #[.bool ok, .bool (ok && !fits)]) ∧ w' = w := by
  have HP := Lib.hid h.parts
  have HE := Lib.hid h.pow
  have HF := Lib.hid h.fit
  have hps : p.size ≤ 1000 := Nat.le_trans h.short.1 (by rw [← Lib.size_eq]; exact hs)
  clear h
  cases ok
  · go_enter Tryd.func31, Tryd.ntmps31
    go_wp2_with (first | (go_at_call 30; refine (rparts_any _ _ hs).mono ?_; rintro e w1 ⟨rfl, hw⟩; rw [hw, HP.out]; clear hw) | (go_at_call 46; refine (rpower_all _ _ (by omega)).mono ?_; rintro e w1 ⟨rfl, hw⟩; rw [hw, HE.out, HF.out]; clear hw))
    go_ret2
    exact ⟨rfl, rfl⟩
  · cases fits
    · go_enter Tryd.func31, Tryd.ntmps31
      go_wp2_with (first | (go_at_call 30; refine (rparts_any _ _ hs).mono ?_; rintro e w1 ⟨rfl, hw⟩; rw [hw, HP.out]; clear hw) | (go_at_call 46; refine (rpower_all _ _ (by omega)).mono ?_; rintro e w1 ⟨rfl, hw⟩; rw [hw, HE.out, HF.out]; clear hw))
      go_ret2
      exact ⟨rfl, rfl⟩
    · go_enter Tryd.func31, Tryd.ntmps31
      go_wp2_with (first | (go_at_call 30; refine (rparts_any _ _ hs).mono ?_; rintro e w1 ⟨rfl, hw⟩; rw [hw, HP.out]; clear hw) | (go_at_call 46; refine (rpower_all _ _ (by omega)).mono ?_; rintro e w1 ⟨rfl, hw⟩; rw [hw, HE.out, HF.out]; clear hw))
      go_ret2
      exact ⟨rfl, rfl⟩
set_option maxHeartbeats 1000000 in
theorem number_any (s : ByteArray) (w : World) (hs : s.size ≤ 1000) :
    Calls Tryd.prog 16 #[.string s] w fun e w' => e = .returned (.bool (goodN s.data.toList)) ∧ w' = w := by
  obtain ⟨b, W, P, p, ok, ev, fits, h⟩ := told s.data.toList
  have hF := fun V => form_any s V hs b ok fits W P p ev h
  have HFm := Lib.hid hF
  by_cases hl : (s.size : Int) ≤ 400
  · have hg := h.good (by rw [← Lib.size_eq]; omega)
    rw [hg]
    clear h hg hF
    cases ok <;> cases fits <;>
    (go_enter Tryd.func16, Tryd.ntmps16
     go_wp2_with (go_at_call 31; refine (HFm.out _).mono ?_; rintro e w1 ⟨rfl, hw⟩; rw [hw]; clear hw)
     go_ret
     exact ⟨rfl, rfl⟩)
  · have hg : goodN s.data.toList = false := by
      unfold goodN parseN
      rw [if_pos (by rw [← Lib.size_eq]; omega)]; rfl
    rw [hg]
    have hgt : decide ((s.size : Int) ≤ 400) = false := by simp; omega
    clear h hg hF
    cases ok <;> cases fits <;>
    (go_enter Tryd.func16, Tryd.ntmps16
     go_wp2_with (go_at_call 31; refine (HFm.out _).mono ?_; rintro e w1 ⟨rfl, hw⟩; rw [hw]; clear hw)
     go_ret
     exact ⟨rfl, rfl⟩)
end Go.Proofs.YtkdejdmmgjibmaaDoor
