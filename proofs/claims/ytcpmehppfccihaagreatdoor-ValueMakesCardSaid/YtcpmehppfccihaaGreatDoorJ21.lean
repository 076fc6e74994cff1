/-
  The reference's Form, Number, walked: a number's text is just dec's. Condition: a text of any length that a string has.
  The reference's Int, walked. Condition: a text of any length that a string has.
-/
import Derived.Test.YtcpmehppfccihaaGreatDoorRqPartsAnyJ
namespace Go.Proofs.YtcpmehppfccihaaGreatDoor
open Go.RowKit
set_option linter.unusedVariables false
set_option linter.unusedSimpArgs false
theorem rpower_all (s : ByteArray) (w : World) (hs : s.size ≤ 9223372036854775807) :
    Calls Tryz.prog 72 #[.string s] w fun e w' => e = .returned (.tuple #[.int .i64 ((rpowN s.data.toList).getD 0), .bool (rpowN s.data.toList).isSome]) ∧ w' = w :=
  rpower_any s w (by omega) _ rfl (fun h => by
    rw [ba_head1 h 45]
    exact ⟨fun k => ((byte_is (k := 45) (by decide)).1 k).symm, fun k => (byte_is (k := 45) (by decide)).2 k.symm⟩)
/-- What parts tells, and the power. -/
structure ToldN (l : List UInt8) (b : Bool) (W P p : ByteArray) (ok : Bool) (e : Int) (fits : Bool) : Prop where
  parts : partsV ((partsN l).map toBA) = .tuple #[.bool b, .string W, .string P, .string p, .bool ok]
  pow : (rpowN p.data.toList).getD 0 = e
  fit : (rpowN p.data.toList).isSome = fits
  good : l.length ≤ 400 → goodN l = (ok && fits)
  short : p.size ≤ l.length ∧ W.size ≤ l.length ∧ P.size ≤ l.length
  lo : -100000 ≤ e
  hi : e ≤ 100000
  num : l.length ≤ 400 → ok = true → fits = true → parseN l = some (normN b W.data.toList P.data.toList e)
  no : ok = false → b = false ∧ W = ⟨#[]⟩ ∧ P = ⟨#[]⟩ ∧ p = ⟨#[]⟩ ∧ e = 0 ∧ fits = true
theorem told (l : List UInt8) : ∃ b W P p ok e fits, ToldN l b W P p ok e fits := by
  cases hq : partsN l with
  | none =>
    refine ⟨false, ⟨#[]⟩, ⟨#[]⟩, ⟨#[]⟩, false, 0, true, by rw [hq]; rfl, rfl, rfl, fun hl => ?_, ⟨Nat.zero_le _, Nat.zero_le _, Nat.zero_le _⟩, (by omega), (by omega), (fun _ h => (by cases h)), fun _ => ⟨rfl, rfl, rfl, rfl, rfl, rfl⟩⟩
    unfold goodN; rw [parse_parts hl, hq]; rfl
  | some q =>
    obtain ⟨b, W, P, p⟩ := q
    have hlen := parts_len hq
    obtain ⟨h1, h2, h3⟩ := hlen
    simp only at h1 h2 h3
    refine ⟨b, ⟨W.toArray⟩, ⟨P.toArray⟩, ⟨p.toArray⟩, true, (rpowN p).getD 0, (rpowN p).isSome, by rw [hq]; rfl, rfl, rfl, fun hl => ?_, ⟨by rw [Lib.size_eq]; exact h3, by rw [Lib.size_eq]; exact h1, by rw [Lib.size_eq]; exact h2⟩, (rpow_range rfl).1, (rpow_range rfl).2, fun hl _ hf => ?_, fun h => (by cases h)⟩
    · unfold goodN; rw [parse_parts hl, hq]
      show (Option.map _ (rpowN p)).isSome = _
      cases rpowN p <;> rfl
    · rw [parse_parts hl, hq]
      show Option.map _ (rpowN p) = _
      obtain ⟨e, he⟩ := Option.isSome_iff_exists.1 hf
      rw [he]; rfl
set_option maxHeartbeats 1000000 in
theorem form_any (s : ByteArray) (w : World) (hs : s.size ≤ 9223372036854775807) (b ok fits : Bool) (W P p : ByteArray) (ev : Int) (h : ToldN s.data.toList b W P p ok ev fits) :
    Calls Tryz.prog 53 #[.string s] w fun e w' => e = .returned (.tuple #[.bool ok, .bool (ok && !fits)]) ∧ w' = w := by
  have HP := Lib.hid h.parts
  have HE := Lib.hid h.pow
  have HF := Lib.hid h.fit
  have hps : p.size ≤ 9223372036854775807 := Nat.le_trans h.short.1 (by rw [← Lib.size_eq]; exact hs)
  clear h
  cases ok
  · go_enter Tryz.func53, Tryz.ntmps53
    go_wp2_with (first | (go_at_call 52; refine (rparts_any _ _ hs).mono ?_; rintro e w1 ⟨rfl, hw⟩; rw [hw, HP.out]; clear hw) | (go_at_call 72; refine (rpower_all _ _ (by omega)).mono ?_; rintro e w1 ⟨rfl, hw⟩; rw [hw, HE.out, HF.out]; clear hw))
    go_ret2
    exact ⟨rfl, rfl⟩
  · cases fits
    · go_enter Tryz.func53, Tryz.ntmps53
      go_wp2_with (first | (go_at_call 52; refine (rparts_any _ _ hs).mono ?_; rintro e w1 ⟨rfl, hw⟩; rw [hw, HP.out]; clear hw) | (go_at_call 72; refine (rpower_all _ _ (by omega)).mono ?_; rintro e w1 ⟨rfl, hw⟩; rw [hw, HE.out, HF.out]; clear hw))
      go_ret2
      exact ⟨rfl, rfl⟩
    · go_enter Tryz.func53, Tryz.ntmps53
      go_wp2_with (first | (go_at_call 52; refine (rparts_any _ _ hs).mono ?_; rintro e w1 ⟨rfl, hw⟩; rw [hw, HP.out]; clear hw) | (go_at_call 72; refine (rpower_all _ _ (by omega)).mono ?_; rintro e w1 ⟨rfl, hw⟩; rw [hw, HE.out, HF.out]; clear hw))
      go_ret2
      exact ⟨rfl, rfl⟩
set_option maxHeartbeats 1000000 in
theorem number_any (s : ByteArray) (w : World) (hs : s.size ≤ 9223372036854775807) :
    Calls Tryz.prog 19 #[.string s] w fun e w' => e = .returned (.bool (goodN s.data.toList)) ∧ w' = w := by
  obtain ⟨b, W, P, p, ok, ev, fits, h⟩ := told s.data.toList
  have hF := fun V => form_any s V hs b ok fits W P p ev h
  have HFm := Lib.hid hF
  by_cases hl : (s.size : Int) ≤ 400
  · have hg := h.good (by rw [← Lib.size_eq]; omega)
    rw [hg]
    clear h hg hF
    cases ok <;> cases fits <;>
    (go_enter Tryz.func19, Tryz.ntmps19
     go_wp2_with (go_at_call 53; refine (HFm.out _).mono ?_; rintro e w1 ⟨rfl, hw⟩; rw [hw]; clear hw)
     go_ret
     exact ⟨rfl, rfl⟩)
  · have hg : goodN s.data.toList = false := by
      unfold goodN parseN
      rw [if_pos (by rw [← Lib.size_eq]; omega)]; rfl
    rw [hg]
    have hgt : decide ((s.size : Int) ≤ 400) = false := by simp; omega
    clear h hg hF
    cases ok <;> cases fits <;>
    (go_enter Tryz.func19, Tryz.ntmps19
     go_wp2_with (go_at_call 53; refine (HFm.out _).mono ?_; rintro e w1 ⟨rfl, hw⟩; rw [hw]; clear hw)
     go_ret
     exact ⟨rfl, rfl⟩)
end Go.Proofs.YtcpmehppfccihaaGreatDoor
namespace Go.Proofs.YtcpmehppfccihaaGreatDoor
open Go.RowKit
set_option linter.unusedVariables false
set_option linter.unusedSimpArgs false
set_option maxHeartbeats 1000000 in
theorem rint_bad (s : ByteArray) (w : World) (hs : s.size ≤ 9223372036854775807) (hg : goodN s.data.toList = false) : Calls Tryz.prog 18 #[.string s] w fun e w' => e = .returned (.tuple #[.int .i64 0, .bool false]) ∧ w' = w := by
  have HG := Lib.hid hg
  clear hg
  go_enter Tryz.func18, Tryz.ntmps18
  go_wp2_with (go_at_call 19; refine (number_any _ _ hs).mono ?_; rintro e w1 ⟨rfl, hw⟩; rw [hw, HG.out]; clear hw)
  go_ret2
  exact ⟨rfl, rfl⟩
set_option maxHeartbeats 1000000 in
theorem rint_minus (s : ByteArray) (w : World) (hs : s.size ≤ 9223372036854775807) (hg : goodN s.data.toList = true) (hm : s.toList = [45, 48]) : Calls Tryz.prog 18 #[.string s] w fun e w' => e = .returned (.tuple #[.int .i64 0, .bool false]) ∧ w' = w := by
  have HG := Lib.hid hg
  clear hg
  go_enter Tryz.func18, Tryz.ntmps18
  go_wp2_with (go_at_call 19; refine (number_any _ _ hs).mono ?_; rintro e w1 ⟨rfl, hw⟩; rw [hw, HG.out]; clear hw)
  go_ret2
  exact ⟨rfl, rfl⟩
set_option maxHeartbeats 1000000 in
theorem rint_frac (s : ByteArray) (w : World) (hs : s.size ≤ 9223372036854775807) (hg : goodN s.data.toList = true) (hm : ¬ s.toList = [45, 48]) (b : Bool) (W P p : ByteArray) (hp : partsV ((partsN s.data.toList).map toBA) = .tuple #[.bool b, .string W, .string P, .string p, .bool true]) (h : ¬ P.toList = [] ∨ ¬ p.toList = []) : Calls Tryz.prog 18 #[.string s] w fun e w' => e = .returned (.tuple #[.int .i64 0, .bool false]) ∧ w' = w := by
  have HG := Lib.hid hg
  have HP := Lib.hid hp
  have hse : (s.toList == [45, 48]) = false := by simp [hm]
  clear hg hp
  by_cases hP : P.toList = []
  · have hpp : ¬ p.toList = [] := by rcases h with h | h; exact absurd hP h; exact h
    have hi1 : P.toList.isEmpty = true := by simp [hP]
    have hi2 : p.toList.isEmpty = false := by simp [hpp]
    clear h
    go_enter Tryz.func18, Tryz.ntmps18
    go_wp2_with (first | (go_at_call 19; refine (number_any _ _ hs).mono ?_; rintro e w1 ⟨rfl, hw⟩; rw [hw, HG.out]; clear hw) | (go_at_call 52; refine (rparts_any _ _ hs).mono ?_; rintro e w1 ⟨rfl, hw⟩; rw [hw, HP.out]; clear hw))
    go_ret2
    exact ⟨rfl, rfl⟩
  · have hi1 : P.toList.isEmpty = false := by simp [hP]
    clear h
    go_enter Tryz.func18, Tryz.ntmps18
    go_wp2_with (first | (go_at_call 19; refine (number_any _ _ hs).mono ?_; rintro e w1 ⟨rfl, hw⟩; rw [hw, HG.out]; clear hw) | (go_at_call 52; refine (rparts_any _ _ hs).mono ?_; rintro e w1 ⟨rfl, hw⟩; rw [hw, HP.out]; clear hw))
    go_ret2
    exact ⟨rfl, rfl⟩
set_option maxRecDepth 100000 in
set_option maxHeartbeats 2000000 in
theorem rint_ok (s : ByteArray) (w : World) (hs : s.size ≤ 9223372036854775807) (hg : goodN s.data.toList = true) (hm : ¬ s.toList = [45, 48]) (b : Bool) (W : ByteArray) (hp : partsV ((partsN s.data.toList).map toBA) = .tuple #[.bool b, .string W, .string ⟨#[]⟩, .string ⟨#[]⟩, .bool true]) (hWs : W.size ≤ 9223372036854775807) (hd : ∀ c ∈ W.data.toList, isDig c = true)
    (X : Option Int) (hX : X = if b = true then (if W.data.toList.foldl decF 0 ≤ 9223372036854775808 then some (-(W.data.toList.foldl decF 0 : Nat) : Int) else none) else (if W.data.toList.foldl decF 0 < 9223372036854775808 then some ((W.data.toList.foldl decF 0 : Nat) : Int) else none)) :
    Calls Tryz.prog 18 #[.string s] w fun e w' => e = .returned (.tuple #[.int .i64 (X.getD 0), .bool X.isSome]) ∧ w' = w := by
  have HG := Lib.hid hg
  have HP := Lib.hid hp
  have HX := Lib.hid hX
  have Hd := Lib.hid hd
  have hse : (s.toList == [45, 48]) = false := by simp [hm]
  clear hg hp hX hd
  go_enter Tryz.func18, Tryz.ntmps18
  go_wp2_with (first | (go_at_call 19; refine (number_any _ _ hs).mono ?_; rintro e w1 ⟨rfl, hw⟩; rw [hw, HG.out]; clear hw) | (go_at_call 52; refine (rparts_any _ _ hs).mono ?_; rintro e w1 ⟨rfl, hw⟩; rw [hw, HP.out]; clear hw))
  go_loop [9, 10] (fun v i => ∃ (k a : Nat), k ≤ W.size ∧ v = .int .i64 (-(a : Int)) ∧ i = .int .i64 (k : Int) ∧ a ≤ 9223372036854775808 ∧ W.data.toList.foldl decF 0 = (W.data.toList.drop k).foldl decF a) (fun _ i => W.size - (intOf i).toNat)
  case atStart => exact ⟨0, 0, Nat.zero_le _, rfl, rfl, by omega, by simp⟩
  case round =>
    obtain ⟨k, a, hk, rfl, rfl, ha, hacc⟩ := hrel
    by_cases h0 : k < W.size
    · have hkl : k < W.data.toList.length := by rw [← Lib.size_eq]; exact h0
      have hb : W.data.toList[k]? = some (W[k]'h0) := by
        rw [List.getElem?_eq_getElem hkl]; rfl
      have hr := dig_range (Hd.out _ (List.mem_of_getElem? hb))
      have hst : (W.data.toList.drop k).foldl decF a = (W.data.toList.drop (k + 1)).foldl decF (a * 10 + ((W[k]'h0).toNat - 48)) := by
        obtain ⟨hk2, he⟩ := List.getElem?_eq_some_iff.1 hb
        rw [List.drop_eq_getElem_cons hk2, List.foldl_cons, he]
      rw [hst] at hacc
      have k1 : (48 : Int) ≤ ((W[k]'h0).toNat : Int) := by omega
      have k2 : ((W[k]'h0).toNat : Int) ≤ 57 := by omega
      have hT := down_test (a := 0) (x := ((W[k]'h0).toNat : Int) - 48) (by omega) (by omega)
      obtain ⟨Q, hQ⟩ : ∃ Q, Q = -((9223372036854775808 - (((W[k]'h0).toNat : Int) - 48)) / 10) := ⟨_, rfl⟩
      rw [← hQ] at hT
      have hQ1 : -1000000000000000000 ≤ Q := by omega
      have hQ2 : Q ≤ 0 := by omega
      by_cases hbig : 9223372036854775808 < a * 10 + ((W[k]'h0).toNat - 48)
      · have hmono := val_mono (a * 10 + ((W[k]'h0).toNat - 48)) (W.data.toList.drop (k + 1))
        have hge : 9223372036854775808 < W.data.toList.foldl decF 0 := by rw [hacc]; exact Nat.lt_of_lt_of_le hbig hmono
        have hXn : X = none := by
          rw [HX.out]
          cases b
          · exact (if_neg (by simp)).trans (if_neg (Nat.not_lt.2 (Nat.le_of_lt hge)))
          · exact (if_pos rfl).trans (if_neg (Nat.not_le.2 hge))
        have HXn := Lib.hid hXn
        have hlt : -(a : Int) < Q := by omega
        clear hb hst hacc hbig hmono hXn hQ hge
        go_wp2
        go_ret2
        rw [HXn.out]
        exact ⟨rfl, rfl⟩
      · have HA := Lib.hid hacc
        have hlt : ¬ -(a : Int) < Q := by omega
        have hr2 : (a : Int) * 10 + (((W[k]'h0).toNat : Int) - 48) ≤ 9223372036854775808 := by omega
        clear hb hst hacc hQ
        go_wp2
        exact ⟨⟨k + 1, a * 10 + ((W[k]'h0).toNat - 48), by omega, by rw [show (10 * -(a : Int) - (((W[k]'h0).toNat : Int) - 48)) = -((a * 10 + ((W[k]'h0).toNat - 48) : Nat) : Int) by omega], rfl, by omega, HA.out⟩, by simp only [intOf]; omega⟩
    · have hU : W.data.toList.foldl decF 0 = a := by rw [hacc, List.drop_of_length_le (by rw [← Lib.size_eq]; omega)]; rfl
      have hXa := HX.out
      rw [hU] at hXa
      have HXa := Lib.hid hXa
      clear hU hacc
      cases b
      · have hXb : X = if a < 9223372036854775808 then some (a : Int) else none := hXa
        by_cases hl : (a : Int) = 9223372036854775808
        · rw [if_neg (by omega)] at hXb
          have HXb := Lib.hid hXb
          clear hXa hXb
          go_wp2
          go_ret2
          rw [HXb.out]
          exact ⟨rfl, rfl⟩
        · rw [if_pos (by omega)] at hXb
          have HXb := Lib.hid hXb
          have hl2 : ¬ -(a : Int) = -9223372036854775808 := by omega
          clear hXa hXb
          go_wp2
          go_ret2
          rw [HXb.out]
          exact ⟨rfl, rfl⟩
      · have hXb : X = if a ≤ 9223372036854775808 then some (-(a : Int)) else none := hXa
        rw [if_pos ha] at hXb
        have HXb := Lib.hid hXb
        clear hXa hXb
        go_wp2
        go_ret2
        rw [HXb.out]
        exact ⟨rfl, rfl⟩
theorem rint_any (s : ByteArray) (w : World) (hs : s.size ≤ 9223372036854775807) : Calls Tryz.prog 18 #[.string s] w fun e w' => e = .returned (.tuple #[.int .i64 ((intN s.data.toList).getD 0), .bool (intN s.data.toList).isSome]) ∧ w' = w := by
  cases hg : goodN s.data.toList with
  | false =>
    have : intN s.data.toList = none := by unfold intN; rw [if_neg (by simp [hg])]
    rw [this]; exact rint_bad s w hs hg
  | true =>
    by_cases hm : s.toList = [45, 48]
    · have : intN s.data.toList = none := by unfold intN; rw [if_neg (fun h => h.2.2 (ba_toList.1 hm))]
      rw [this]; exact rint_minus s w hs hg hm
    obtain ⟨x, hx⟩ := Option.isSome_iff_exists.1 hg
    have hl := (parse_asc hx).1
    cases hq : partsN s.data.toList with
    | none => rw [parse_parts hl, hq] at hx; cases hx
    | some q =>
      obtain ⟨b, W, P, p⟩ := q
      obtain ⟨hd, hne, hlit, hP, hp⟩ := parts_in hq
      have hlen := parts_len hq
      obtain ⟨l1, l2, l3⟩ := hlen
      simp only at l1 l2 l3
      have hV : partsV ((partsN s.data.toList).map toBA) = .tuple #[.bool b, .string ⟨W.toArray⟩, .string ⟨P.toArray⟩, .string ⟨p.toArray⟩, .bool true] := by rw [hq]; rfl
      by_cases h0 : P = [] ∧ p = []
      · obtain ⟨rfl, rfl⟩ := h0
        have hl2 := hlit rfl rfl
        have hno : Lib.containsAny s.data.toList [46, 101, 69] = false := by
          rw [hl2]
          refine noAny fun c hc => ?_
          have hcd : c = 45 ∨ isDig c = true := by
            rcases List.mem_append.1 hc with hc | hc
            · left
              unfold minus at hc
              split at hc
              · exact List.mem_singleton.1 hc
              · cases hc
            · exact .inr (hd c hc)
          rcases hcd with rfl | hcd
          · decide
          · have := dig_range hcd
            cases hk : ([46, 101, 69] : List UInt8).contains c
            · rfl
            · simp at hk
              rcases hk with rfl | rfl | rfl <;> simp at this
        have hi : intN s.data.toList = (match Lib.parseIntB 64 s.data.toList with | .ok v => some v | _ => none) := by unfold intN; rw [if_pos ⟨hg, hno, fun h => hm (ba_toList.2 h)⟩]; rfl
        have hk := parseInt_lit b hd hne
        rw [← hl2] at hk
        have hi2 := hi.trans hk
        exact rint_ok s w hs hg hm b ⟨W.toArray⟩ hV (by rw [Lib.size_eq]; show W.length ≤ 9223372036854775807; omega) hd _ hi2
      · have hany : Lib.containsAny s.data.toList [46, 101, 69] = true := by
          by_cases hP0 : P = []
          · have hp0 : p ≠ [] := fun e => h0 ⟨hP0, e⟩
            rcases hp hp0 with h | h
            · exact any_mem h (by decide)
            · exact any_mem h (by decide)
          · exact any_mem (hP hP0) (by decide)
        have : intN s.data.toList = none := by unfold intN; rw [if_neg (fun h => by rw [hany] at h; cases h.2.1)]
        rw [this]
        refine rint_frac s w hs hg hm b _ _ _ hV ?_
        by_cases hP0 : P = []
        · right; rw [Lib.toList_data]; exact fun e => h0 ⟨hP0, e⟩
        · left; rw [Lib.toList_data]; exact hP0
end Go.Proofs.YtcpmehppfccihaaGreatDoor
