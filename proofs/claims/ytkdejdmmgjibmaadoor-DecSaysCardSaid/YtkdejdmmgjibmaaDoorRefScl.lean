/-
  The reference's scaled, walked. Condition: a text of at most 1000 bytes.
-/
import Derived.Test.YtkdejdmmgjibmaaDoorRefNum
import Derived.Test.YtkdejdmmgjibmaaDoorDecNeg
import Derived.Handy
namespace Go.Proofs.YtkdejdmmgjibmaaDoor
open Go.RowKit
set_option linter.unusedVariables false
set_option linter.unusedSimpArgs false
theorem trimL_step {X : List UInt8} (h : X.head? = some 48) : Lib.trimLeftB (X.drop 1) 48 = Lib.trimLeftB X 48 := by
  cases X with
  | nil => cases h
  | cons c X =>
    have : c = 48 := by simpa using h
    subst this
    unfold Lib.trimLeftB
    rw [List.dropWhile_cons, if_pos (by decide)]; rfl
theorem trimR_snoc (X : List UInt8) : Lib.trimRightB (X ++ [48]) 48 = Lib.trimRightB X 48 := trimR_zeros X 1
theorem trimR_stop {X : List UInt8} {c : UInt8} (h : c ≠ 48) : Lib.trimRightB (X ++ [c]) 48 = X ++ [c] := by
  unfold Lib.trimRightB
  rw [List.reverse_append, List.reverse_singleton, List.singleton_append, List.dropWhile_cons, if_neg (by simpa using h)]
  simp
theorem split_last {T : ByteArray} (hz : 0 < T.size) : T.data.toList = (T.extract 0 (T.size - 1)).data.toList ++ [T[T.size - 1]'(by omega)] := by
  rw [Lib.extract_data]
  have hl : T.data.toList.length = T.size := (Lib.size_eq T).symm
  have h2 : T.data.toList[T.size - 1]? = some (T[T.size - 1]'(by omega)) := by
    rw [List.getElem?_eq_getElem (by omega)]; rfl
  have h3 := List.take_append_drop (T.size - 1) T.data.toList
  rw [List.drop_eq_getElem_cons (by omega), List.drop_of_length_le (by omega)] at h3
  rw [List.getElem?_eq_getElem (by omega)] at h2
  rw [Option.some.inj h2] at h3
  rw [List.drop_zero, Nat.sub_zero]
  exact h3.symm
set_option maxRecDepth 100000 in
set_option maxHeartbeats 2000000 in
theorem scaled_any (s : ByteArray) (w : World) (hs : s.size ≤ 1000) (b ok fits : Bool) (W P p : ByteArray) (ev : Int) (h : Told s.data.toList b W P p ok ev fits) (D : ByteArray) (hD : W ++ P = D) (hDs : D.size ≤ 2000) :
    Calls Tryd.prog 29 #[.string s] w fun e w' => e = .returned (.tuple #[.bool (normN b W.data.toList P.data.toList ev).1, .string ⟨(normN b W.data.toList P.data.toList ev).2.1.toArray⟩, .int .i64 (normN b W.data.toList P.data.toList ev).2.2]) ∧ w' = w := by
  have HP := Lib.hid h.parts
  have HE := Lib.hid h.pow
  have HF := Lib.hid h.fit
  have hps : p.size ≤ 1000 := Nat.le_trans h.short.1 (by rw [← Lib.size_eq]; exact hs)
  have hWs : W.size ≤ 1000 := Nat.le_trans h.short.2.1 (by rw [← Lib.size_eq]; exact hs)
  have hPs : P.size ≤ 1000 := Nat.le_trans h.short.2.2 (by rw [← Lib.size_eq]; exact hs)
  have hDl : D.data.toList = W.data.toList ++ P.data.toList := by rw [← hD]; exact ba_append _ _
  have HDl := Lib.hid hDl
  clear hDl
  have he1 := h.lo
  have he2 := h.hi
  clear h
  go_enter Tryd.func29, Tryd.ntmps29
  go_wp2_with (first | (go_at_call 30; refine (rparts_any _ _ hs).mono ?_; rintro e w1 ⟨rfl, hw⟩; rw [hw, HP.out]; clear hw) | (go_at_call 46; refine (rpower_all _ _ (by omega)).mono ?_; rintro e w1 ⟨rfl, hw⟩; rw [hw, HE.out, HF.out]; clear hw))
  go_loop [12, 13] (fun v t => ∃ T : ByteArray, v = .string T ∧ t = .int .i64 (((W.size : Int) - 1 + ev) - ((D.size : Int) - (T.size : Int))) ∧ Lib.trimLeftB T.data.toList 48 = Lib.trimLeftB D.data.toList 48 ∧ T.size ≤ D.size) (fun v _ => Lib.strSize v)
  case atStart => exact ⟨D, rfl, by congr 1; omega, rfl, Nat.le_refl _⟩
  case round =>
    obtain ⟨T, rfl, rfl, hT, hTs⟩ := hrel
    by_cases hTe : T.toList = []
    · have hie : T.toList.isEmpty = true := by simp [hTe]
      have hL : Lib.trimLeftB D.data.toList 48 = T.data.toList := by rw [← hT, ba_nil hTe]; rfl
      have hN0 : T.data.toList = [] → normN b W.data.toList P.data.toList ev = (false, [], 0) := fun h => by
        unfold normN; rw [← HDl.out, hL, if_pos h]
      have hN1 : ¬ T.data.toList = [] → normN b W.data.toList P.data.toList ev = (b, Lib.trimRightB T.data.toList 48, ((W.size : Int) - 1 + ev) - ((D.size : Int) - (T.size : Int))) := fun h => by
        unfold normN; rw [← HDl.out, hL, if_neg h, ← Lib.size_eq, ← Lib.size_eq, ← Lib.size_eq]
        congr 2; omega
      have hTn : T.data.toList ≠ [] → Lib.trimRightB T.data.toList 48 ≠ [] := fun hne h => by
        have hh := dropWhile_head D.data.toList 48
        have hall := trimRight_nil h
        have e : D.data.toList.dropWhile (· == 48) = T.data.toList := hL
        rw [e] at hh
        cases hq : T.data.toList with
        | nil => exact hne hq
        | cons c r =>
          rw [hq] at hh
          exact hh (by rw [hall c (by rw [hq]; simp)]; rfl)
      have HTn := Lib.hid hTn
      have HN0 := Lib.hid hN0
      have HN1 := Lib.hid hN1
      have hTT : T.size ≤ 2000 := by omega
      clear hN0 hN1 hL hT hTn
      go_wp2
      go_loop [12] (fun v => ∃ Y : ByteArray, v = .string Y ∧ Lib.trimRightB Y.data.toList 48 = Lib.trimRightB T.data.toList 48 ∧ Y.size ≤ 2000) (fun v => Lib.strSize v)
      case atStart => exact ⟨T, rfl, rfl, hTT⟩
      case round =>
        obtain ⟨Y, rfl, hY, hYs⟩ := hrel
        by_cases hYe : Y.toList = []
        · have hiy : Y.toList.isEmpty = true := by simp [hYe]
          have hT0 : T.data.toList = [] := by
            by_cases h : T.data.toList = []
            · exact h
            · exact absurd (by rw [← hY, ba_nil hYe]; rfl) (HTn.out h)
          have hR := HN0.out hT0
          have HR := Lib.hid hR
          clear hY hT0 hR
          go_wp2
          go_returns
          rw [HR.out]
          exact ⟨rfl, rfl⟩
        · have hiy : Y.toList.isEmpty = false := by simp [hYe]
          have hzy := ba_pos hYe
          have hsp := split_last hzy
          by_cases h48 : ((Y[Y.size - 1]'(by omega)).toNat : Int) = 48
          · obtain ⟨Y', hY'⟩ : ∃ Y', Y.extract 0 (Y.size - 1) = Y' := ⟨_, rfl⟩
            have hs' : Y'.size = Y.size - 1 := by rw [← hY', Lib.size_eq, Lib.extract_data, List.drop_zero, List.length_take, ← Lib.size_eq]; omega
            have hstep : Lib.trimRightB Y'.data.toList 48 = Lib.trimRightB T.data.toList 48 := by
              rw [← hY, hsp, hY', (byte_is (k := 48) (by decide)).1 h48]
              exact (trimR_snoc _).symm
            have HS := Lib.hid hstep
            have Hs' := Lib.hid hs'
            have hy1 : (1 : Int) ≤ (Y.size : Int) := by omega
            clear hY hstep hs' hsp
            go_wp2
            exact ⟨⟨Y', rfl, HS.out, by have := Hs'.out; omega⟩, by rw [Lib.strSize_string, Lib.strSize_string]; have := Hs'.out; omega⟩
          · have hstop : Lib.trimRightB T.data.toList 48 = Y.data.toList := by
              rw [← hY, hsp]
              exact trimR_stop (fun e => h48 ((byte_is (k := 48) (by decide)).2 e))
            have hT0 : ¬ T.data.toList = [] := fun h => by
              rw [h] at hstop
              exact ba_nn hYe hstop.symm
            have hR := HN1.out hT0
            rw [hstop] at hR
            have HR := Lib.hid hR
            have hy1 : (1 : Int) ≤ (Y.size : Int) := by omega
            clear hY hT0 hR hstop hsp
            go_wp2
            go_returns
            rw [HR.out, ba_of]
            exact ⟨rfl, rfl⟩
    · have hie : T.toList.isEmpty = false := by simp [hTe]
      have hz := ba_pos hTe
      by_cases h48 : ((T[0]'hz).toNat : Int) = 48
      · obtain ⟨T', hT'⟩ : ∃ T', T.extract 1 T.size = T' := ⟨_, rfl⟩
        have hl' : T'.data.toList = T.data.toList.drop 1 := by rw [← hT']; exact extract1 T
        have hs' : T'.size = T.size - 1 := by rw [Lib.size_eq, hl', List.length_drop, ← Lib.size_eq]
        have hstep : Lib.trimLeftB T'.data.toList 48 = Lib.trimLeftB D.data.toList 48 := by
          rw [hl', ← hT]
          refine trimL_step ?_
          rw [ba_head hz, (byte_is (k := 48) (by decide)).1 h48]; rfl
        have HS := Lib.hid hstep
        have Hs' := Lib.hid hs'
        clear hT hstep hl' hs'
        go_wp2
        refine ⟨⟨T', rfl, ?_, HS.out, by have := Hs'.out; omega⟩, by rw [Lib.strSize_string, Lib.strSize_string]; have := Hs'.out; omega⟩
        have := Hs'.out
        congr 1
        omega
      · have hL : Lib.trimLeftB D.data.toList 48 = T.data.toList := by
          rw [← hT]
          refine trimL_head ?_
          rw [ba_head hz]
          intro h
          exact h48 ((byte_is (k := 48) (by decide)).2 (Option.some.inj h))
        have hN0 : T.data.toList = [] → normN b W.data.toList P.data.toList ev = (false, [], 0) := fun h => by
          unfold normN; rw [← HDl.out, hL, if_pos h]
        have hN1 : ¬ T.data.toList = [] → normN b W.data.toList P.data.toList ev = (b, Lib.trimRightB T.data.toList 48, ((W.size : Int) - 1 + ev) - ((D.size : Int) - (T.size : Int))) := fun h => by
          unfold normN; rw [← HDl.out, hL, if_neg h, ← Lib.size_eq, ← Lib.size_eq, ← Lib.size_eq]
          congr 2; omega
        have hTn : T.data.toList ≠ [] → Lib.trimRightB T.data.toList 48 ≠ [] := fun hne h => by
          have hh := dropWhile_head D.data.toList 48
          have hall := trimRight_nil h
          have e : D.data.toList.dropWhile (· == 48) = T.data.toList := hL
          rw [e] at hh
          cases hq : T.data.toList with
          | nil => exact hne hq
          | cons c r =>
            rw [hq] at hh
            exact hh (by rw [hall c (by rw [hq]; simp)]; rfl)
        have HTn := Lib.hid hTn
        have HN0 := Lib.hid hN0
        have HN1 := Lib.hid hN1
        have hTT : T.size ≤ 2000 := by omega
        clear hN0 hN1 hL hT hTn
        go_wp2
        go_loop [12] (fun v => ∃ Y : ByteArray, v = .string Y ∧ Lib.trimRightB Y.data.toList 48 = Lib.trimRightB T.data.toList 48 ∧ Y.size ≤ 2000) (fun v => Lib.strSize v)
        case atStart => exact ⟨T, rfl, rfl, hTT⟩
        case round =>
          obtain ⟨Y, rfl, hY, hYs⟩ := hrel
          by_cases hYe : Y.toList = []
          · have hiy : Y.toList.isEmpty = true := by simp [hYe]
            have hT0 : T.data.toList = [] := by
              by_cases h : T.data.toList = []
              · exact h
              · exact absurd (by rw [← hY, ba_nil hYe]; rfl) (HTn.out h)
            have hR := HN0.out hT0
            have HR := Lib.hid hR
            clear hY hT0 hR
            go_wp2
            go_returns
            rw [HR.out]
            exact ⟨rfl, rfl⟩
          · have hiy : Y.toList.isEmpty = false := by simp [hYe]
            have hzy := ba_pos hYe
            have hsp := split_last hzy
            by_cases h48 : ((Y[Y.size - 1]'(by omega)).toNat : Int) = 48
            · obtain ⟨Y', hY'⟩ : ∃ Y', Y.extract 0 (Y.size - 1) = Y' := ⟨_, rfl⟩
              have hs' : Y'.size = Y.size - 1 := by rw [← hY', Lib.size_eq, Lib.extract_data, List.drop_zero, List.length_take, ← Lib.size_eq]; omega
              have hstep : Lib.trimRightB Y'.data.toList 48 = Lib.trimRightB T.data.toList 48 := by
                rw [← hY, hsp, hY', (byte_is (k := 48) (by decide)).1 h48]
                exact (trimR_snoc _).symm
              have HS := Lib.hid hstep
              have Hs' := Lib.hid hs'
              have hy1 : (1 : Int) ≤ (Y.size : Int) := by omega
              clear hY hstep hs' hsp
              go_wp2
              exact ⟨⟨Y', rfl, HS.out, by have := Hs'.out; omega⟩, by rw [Lib.strSize_string, Lib.strSize_string]; have := Hs'.out; omega⟩
            · have hstop : Lib.trimRightB T.data.toList 48 = Y.data.toList := by
                rw [← hY, hsp]
                exact trimR_stop (fun e => h48 ((byte_is (k := 48) (by decide)).2 e))
              have hT0 : ¬ T.data.toList = [] := fun h => by
                rw [h] at hstop
                exact ba_nn hYe hstop.symm
              have hR := HN1.out hT0
              rw [hstop] at hR
              have HR := Lib.hid hR
              have hy1 : (1 : Int) ≤ (Y.size : Int) := by omega
              clear hY hT0 hR hstop hsp
              go_wp2
              go_returns
              rw [HR.out, ba_of]
              exact ⟨rfl, rfl⟩
end Go.Proofs.YtkdejdmmgjibmaaDoor
