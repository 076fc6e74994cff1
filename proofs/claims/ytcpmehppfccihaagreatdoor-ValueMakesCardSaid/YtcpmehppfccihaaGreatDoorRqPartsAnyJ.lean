/-
  The reference's parts, walked: it reads what the plain reader reads. Condition: a text of any length that a string has.
-/
import Derived.Test.YtcpmehppfccihaaGreatDoorJ20
import Derived.Test.YtcpmehppfccihaaGreatDoorRqPartsCJ
import Derived.Test.YtcpmehppfccihaaGreatDoorRqPartsDJ
import Derived.Test.YtcpmehppfccihaaGreatDoorRqPartsEJ
import Derived.Test.YtcpmehppfccihaaGreatDoorRqPartsFJ
import Derived.Test.YtcpmehppfccihaaGreatDoorRqPartsGJ
import Derived.Test.YtcpmehppfccihaaGreatDoorRqPartsHJ
import Derived.Test.YtcpmehppfccihaaGreatDoorJ10
namespace Go.Proofs.YtcpmehppfccihaaGreatDoor
open Go.RowKit
set_option linter.unusedVariables false
set_option linter.unusedSimpArgs false
def toBA (q : Bool × List UInt8 × List UInt8 × List UInt8) : Bool × ByteArray × ByteArray × ByteArray := (q.1, ⟨q.2.1.toArray⟩, ⟨q.2.2.1.toArray⟩, ⟨q.2.2.2.toArray⟩)
theorem ba_of (E : ByteArray) : (⟨E.data.toList.toArray⟩ : ByteArray) = E := Lib.mk_data E
theorem ba_nil {E : ByteArray} (h : E.toList = []) : E.data.toList = [] := by rw [← Lib.toList_data]; exact h
theorem ba_nn {E : ByteArray} (h : ¬ E.toList = []) : E.data.toList ≠ [] := by rw [← Lib.toList_data]; exact h
theorem ba_head1 {E : ByteArray} (hz : 0 < E.size) (c : UInt8) : Lib.hasPrefix E.data.toList [c] = true ↔ c = E[0]'hz := by
  rw [ba_head hz]; simp [Lib.hasPrefix]
theorem signed_one {F : ByteArray} (hz : 0 < F.size) (h : ((F[0]'hz).toNat : Int) = 43 ∨ ((F[0]'hz).toNat : Int) = 45) : signed F.data.toList = (F.extract 1 F.size).data.toList := by
  rw [extract1]
  unfold signed
  rw [if_pos]
  rw [Bool.or_eq_true]
  rcases h with h | h
  · right; exact (ba_head1 hz 43).2 ((byte_is (k := 43) (by decide)).1 h).symm
  · left; exact (ba_head1 hz 45).2 ((byte_is (k := 45) (by decide)).1 h).symm
theorem signed_none {F : ByteArray} (hz : 0 < F.size) (h1 : ¬ ((F[0]'hz).toNat : Int) = 43) (h2 : ¬ ((F[0]'hz).toNat : Int) = 45) : signed F.data.toList = F.data.toList := by
  unfold signed
  rw [if_neg]
  rw [Bool.or_eq_true]
  rintro (h | h)
  · exact h2 ((byte_is (k := 45) (by decide)).2 ((ba_head1 hz 45).1 h).symm)
  · exact h1 ((byte_is (k := 43) (by decide)).2 ((ba_head1 hz 43).1 h).symm)
theorem form_is {Fl Gl : List UInt8} (h : signed Fl = Gl) : formP Fl = (decide (Gl ≠ []) && decide (digN Gl = Gl.length)) := by unfold formP; rw [h]
theorem tail_e {c : UInt8} {p : List UInt8} (h : c = 101 ∨ c = 69) : tailN (c :: p) = if formP p = true then some p else none := by
  have e : tailN (c :: p) = if (c = 101 ∨ c = 69) ∧ formP p = true then some p else none := rfl
  rw [e]
  by_cases hf : formP p = true
  · rw [if_pos ⟨h, hf⟩, if_pos hf]
  · rw [if_neg (fun x => hf x.2), if_neg hf]
theorem tail_no {c : UInt8} {p : List UInt8} (h1 : c ≠ 101) (h2 : c ≠ 69) : tailN (c :: p) = none := if_neg (fun h => h.1.elim h1 h2)
set_option maxHeartbeats 4000000 in
theorem rparts_any (s : ByteArray) (w : World) (hs : s.size ≤ 9223372036854775807) :
    Calls Tryz.prog 52 #[.string s] w fun e w' => e = .returned (partsV ((partsN s.data.toList).map toBA)) ∧ w' = w := by
  by_cases hns : s.toList = []
  · have hl := ba_nil hns
    have h0 : s.size = 0 := by rw [Lib.size_eq, hl]; rfl
    have hp : partsN s.data.toList = none := by rw [hl]; kernel_rfl
    rw [hp]
    exact rparts_nil s w hs hns (by rw [hl]; rfl) _ rfl (by rw [Lib.toList_data, Lib.extract_data, hl]; rfl)
  have hz := ba_pos hns
  by_cases h45 : ((s[0]'hz).toNat : Int) = 45
  · have hm : Lib.hasPrefix s.data.toList [45] = true := (ba_head1 hz 45).2 ((byte_is (k := 45) (by decide)).1 h45).symm
    obtain ⟨R, hR⟩ : ∃ R, s.extract 1 s.size = R := ⟨_, rfl⟩
    have hRl : Lib.trimPrefix s.data.toList [45] = R.data.toList := by rw [← hR, extract1]; unfold Lib.trimPrefix; rw [hm]; rfl
    have hRs : R.size ≤ 9223372036854775807 := by rw [Lib.size_eq, ← hRl]; exact Nat.le_trans (Lib.trimPrefix_le _ _) (by rw [← Lib.size_eq]; exact hs)
    obtain ⟨n, hn⟩ : ∃ n, digN R.data.toList = n := ⟨_, rfl⟩
    have hn1 : n ≤ R.size := by rw [← hn, Lib.size_eq]; exact digN_le _
    obtain ⟨Wh, hWh⟩ : ∃ Wh, R.extract 0 n = Wh := ⟨_, rfl⟩
    obtain ⟨R2, hR2⟩ : ∃ R2, R.extract n R.size = R2 := ⟨_, rfl⟩
    have hWl : R.data.toList.take n = Wh.data.toList := by rw [← hWh, Lib.extract_data]; simp
    have hWlen : Wh.size = n := by rw [Lib.size_eq, ← hWl, List.length_take, ← Lib.size_eq]; omega
    have hWs : Wh.size ≤ 9223372036854775807 := by omega
    have hR2l : R.data.toList.drop n = R2.data.toList := by rw [← hR2, Lib.extract_data, List.take_of_length_le (by rw [List.length_drop, Lib.size_eq]; omega)]
    have hR2s : R2.size ≤ 9223372036854775807 := by rw [Lib.size_eq, ← hR2l, List.length_drop, ← Lib.size_eq]; omega
    have hP0 : partsN s.data.toList = if n = 0 ∨ (1 < n ∧ R.data.toList.head? = some 48) then none else (partN R2.data.toList).bind fun pr => (tailN pr.2).map fun q => (true, Wh.data.toList, pr.1, q) := by
      unfold partsN; rw [hRl, hn, hm, hWl, hR2l]
    by_cases h0 : n = 0
    · rw [hP0, if_pos (.inl h0)]
      exact rparts_zerom s w hs hns hz h45 R hR hRs n hn hn1 Wh R2 hWh hR2 hWs hR2s (by rw [Lib.toList_data, ← hWl, h0]; rfl)
    have hnWh : ¬ Wh.toList = [] := fun h => h0 (by rw [← hWlen, Lib.size_eq, ba_nil h]; rfl)
    have hzW := ba_pos hnWh
    have hhead : R.data.toList.head? = some (Wh[0]'hzW) := by
      have e1 := ba_head hzW
      rw [← hWl] at e1
      cases hq : R.data.toList with
      | nil => rw [hq] at e1; simp at e1
      | cons c r =>
        rw [hq] at e1
        obtain ⟨n', rfl⟩ : ∃ n', n = n' + 1 := ⟨n - 1, by omega⟩
        rw [List.take_succ_cons] at e1
        rw [(List.cons.inj e1).1]; rfl
    by_cases h1 : (Wh.size : Int) ≤ 1
    · have hP1 := hP0
      rw [if_neg (by rintro (h | h); exact h0 h; omega)] at hP1
      by_cases heR2 : R2.toList = []
      · have hN : partsN s.data.toList = some (true, Wh.data.toList, [], []) := by rw [hP1, ba_nil heR2]; rfl
        rw [hN]
        have k := rparts_zm1 s w hs hns hz h45 R hR hRs n hn hn1 Wh R2 hWh hR2 hWs hR2s hnWh h1 heR2
        rw [← ba_of Wh] at k; exact k
      have hnR2 := heR2
      have hz2 := ba_pos hnR2
      by_cases h46 : ((R2[0]'hz2).toNat : Int) = 46
      · have hd : Lib.hasPrefix R2.data.toList [46] = true := (ba_head1 hz2 46).2 ((byte_is (k := 46) (by decide)).1 h46).symm
        obtain ⟨R3, hR3⟩ : ∃ R3, R2.extract 1 R2.size = R3 := ⟨_, rfl⟩
        have hR3l : R2.data.toList.drop 1 = R3.data.toList := by rw [← hR3]; exact (extract1 R2).symm
        have hR3s : R3.size ≤ 9223372036854775807 := by rw [← hR3]; exact Nat.le_trans (extract1_size R2) hR2s
        have hR3n : R3.size = R2.size - 1 := by rw [Lib.size_eq, ← hR3l, List.length_drop, ← Lib.size_eq]
        obtain ⟨k, hk⟩ : ∃ k, digN R3.data.toList = k := ⟨_, rfl⟩
        have hk1 : k + 1 ≤ R2.size := by
          have := digN_le R3.data.toList
          rw [hk, ← Lib.size_eq] at this
          omega
        obtain ⟨Fr, hFr⟩ : ∃ Fr, R2.extract 1 (1 + k) = Fr := ⟨_, rfl⟩
        obtain ⟨E, hE⟩ : ∃ E, R2.extract (1 + k) R2.size = E := ⟨_, rfl⟩
        have hFl : R3.data.toList.take k = Fr.data.toList := by rw [← hFr, Lib.extract_data, hR3l, Nat.add_sub_cancel_left]
        have hEl0 : R2.data.toList.drop (k + 1) = E.data.toList := by rw [← hE, Lib.extract_data, Nat.add_comm 1 k, List.take_of_length_le (by rw [List.length_drop, Lib.size_eq]; omega)]
        have hFlen : Fr.size = k := by rw [Lib.size_eq, ← hFl, List.length_take, ← Lib.size_eq]; omega
        have hFs : Fr.size ≤ 9223372036854775807 := by omega
        have hEs : E.size ≤ 9223372036854775807 := by rw [Lib.size_eq, ← hEl0, List.length_drop, ← Lib.size_eq]; omega
        by_cases heFr : Fr.toList = []
        · have hk0 : k = 0 := by rw [← hFlen, Lib.size_eq, ba_nil heFr]; rfl
          have hN : partsN s.data.toList = none := by rw [hP1]; unfold partN; rw [hd, if_pos rfl, hR3l, hk, if_pos hk0]; rfl
          rw [hN]; exact rparts_fm1 s w hs hns hz h45 R hR hRs n hn hn1 Wh R2 hWh hR2 hWs hR2s hnWh h1 hnR2 hz2 h46 R3 hR3 hR3s k hk hk1 Fr E hFr hE hFs hEs heFr
        have hk0 : ¬ k = 0 := fun h => heFr (by rw [Lib.toList_data, ← hFl, h]; rfl)
        have hN : partsN s.data.toList = (tailN E.data.toList).map fun q => (true, Wh.data.toList, Fr.data.toList, q) := by rw [hP1]; unfold partN; rw [hd, if_pos rfl, hR3l, hk, if_neg hk0, hFl, hEl0]; rfl
        by_cases heE : E.toList = []
        · rw [hN, ba_nil heE]
          have k := rparts_dem1 s w hs hns hz h45 R hR hRs n hn hn1 Wh R2 hWh hR2 hWs hR2s hnWh h1 hnR2 hz2 h46 R3 hR3 hR3s k hk hk1 Fr E hFr hE hFs hEs heFr heE
          rw [← ba_of Wh, ← ba_of Fr] at k; exact k
        have hzE := ba_pos heE
        have hEl := ba_head hzE
        obtain ⟨F, hF⟩ : ∃ F, E.extract 1 E.size = F := ⟨_, rfl⟩
        have hFz : F.size ≤ 9223372036854775807 := by rw [← hF]; exact Nat.le_trans (extract1_size E) hEs
        rw [hF] at hEl
        by_cases g1 : ((E[0]'hzE).toNat : Int) = 101
        · have hT : tailN E.data.toList = if formP F.data.toList = true then some F.data.toList else none := by rw [hEl]; exact tail_e (.inl ((byte_is (k := 101) (by decide)).1 g1))
          by_cases heF : F.toList = []
          · have hf : formP F.data.toList = false := by rw [ba_nil heF]; rfl
            rw [hN, hT, hf]; exact rparts_x0edm1 s w hs hns hz h45 R hR hRs n hn hn1 Wh R2 hWh hR2 hWs hR2s hnWh h1 hnR2 hz2 h46 R3 hR3 hR3s k hk hk1 Fr E hFr hE hFs hEs heFr heE hzE g1 F hF hFz heF
          have hzF := ba_pos heF
          by_cases s1 : ((F[0]'hzF).toNat : Int) = 43
          · obtain ⟨G, hG⟩ : ∃ G, F.extract 1 F.size = G := ⟨_, rfl⟩
            have hG' : signed F.data.toList = G.data.toList := by rw [← hG]; exact signed_one hzF (.inl s1)
            have hGs : G.size ≤ 9223372036854775807 := by rw [← hG]; exact Nat.le_trans (extract1_size F) hFz
            obtain ⟨m, hmm⟩ : ∃ m, digN G.data.toList = m := ⟨_, rfl⟩
            by_cases heG : G.toList = []
            · have hf : formP F.data.toList = false := by rw [form_is hG', ba_nil heG]; rfl
              rw [hN, hT, hf]; exact rparts_xeaedm1 s w hs hns hz h45 R hR hRs n hn hn1 Wh R2 hWh hR2 hWs hR2s hnWh h1 hnR2 hz2 h46 R3 hR3 hR3s k hk hk1 Fr E hFr hE hFs hEs heFr heE hzE g1 F hF hFz heF hzF s1 G hG hGs m hmm heG
            have hgne : G.data.toList ≠ [] := (ba_nn heG)
            by_cases hb : m = G.size
            · have hf : formP F.data.toList = true := by rw [form_is hG', hmm, hb, Lib.size_eq]; simp [hgne]
              rw [hN, hT, hf]
              have k := rparts_kaedm1 s w hs hns hz h45 R hR hRs n hn hn1 Wh R2 hWh hR2 hWs hR2s hnWh h1 hnR2 hz2 h46 R3 hR3 hR3s k hk hk1 Fr E hFr hE hFs hEs heFr heE hzE g1 F hF hFz heF hzF s1 G hG hGs m hmm heG hb
              rw [← ba_of Wh, ← ba_of Fr, ← ba_of F] at k; exact k
            have hf : formP F.data.toList = false := by
              rw [form_is hG', hmm]
              have : ¬ m = G.data.toList.length := by rw [← Lib.size_eq]; exact hb
              rw [decide_eq_false this, Bool.and_false]
            rw [hN, hT, hf]; exact rparts_xbaedm1 s w hs hns hz h45 R hR hRs n hn hn1 Wh R2 hWh hR2 hWs hR2s hnWh h1 hnR2 hz2 h46 R3 hR3 hR3s k hk hk1 Fr E hFr hE hFs hEs heFr heE hzE g1 F hF hFz heF hzF s1 G hG hGs m hmm heG (by omega)
          by_cases s2 : ((F[0]'hzF).toNat : Int) = 45
          · obtain ⟨G, hG⟩ : ∃ G, F.extract 1 F.size = G := ⟨_, rfl⟩
            have hG' : signed F.data.toList = G.data.toList := by rw [← hG]; exact signed_one hzF (.inr s2)
            have hGs : G.size ≤ 9223372036854775807 := by rw [← hG]; exact Nat.le_trans (extract1_size F) hFz
            obtain ⟨m, hmm⟩ : ∃ m, digN G.data.toList = m := ⟨_, rfl⟩
            by_cases heG : G.toList = []
            · have hf : formP F.data.toList = false := by rw [form_is hG', ba_nil heG]; rfl
              rw [hN, hT, hf]; exact rparts_xebedm1 s w hs hns hz h45 R hR hRs n hn hn1 Wh R2 hWh hR2 hWs hR2s hnWh h1 hnR2 hz2 h46 R3 hR3 hR3s k hk hk1 Fr E hFr hE hFs hEs heFr heE hzE g1 F hF hFz heF hzF s1 s2 G hG hGs m hmm heG
            have hgne : G.data.toList ≠ [] := (ba_nn heG)
            by_cases hb : m = G.size
            · have hf : formP F.data.toList = true := by rw [form_is hG', hmm, hb, Lib.size_eq]; simp [hgne]
              rw [hN, hT, hf]
              have k := rparts_kbedm1 s w hs hns hz h45 R hR hRs n hn hn1 Wh R2 hWh hR2 hWs hR2s hnWh h1 hnR2 hz2 h46 R3 hR3 hR3s k hk hk1 Fr E hFr hE hFs hEs heFr heE hzE g1 F hF hFz heF hzF s1 s2 G hG hGs m hmm heG hb
              rw [← ba_of Wh, ← ba_of Fr, ← ba_of F] at k; exact k
            have hf : formP F.data.toList = false := by
              rw [form_is hG', hmm]
              have : ¬ m = G.data.toList.length := by rw [← Lib.size_eq]; exact hb
              rw [decide_eq_false this, Bool.and_false]
            rw [hN, hT, hf]; exact rparts_xbbedm1 s w hs hns hz h45 R hR hRs n hn hn1 Wh R2 hWh hR2 hWs hR2s hnWh h1 hnR2 hz2 h46 R3 hR3 hR3s k hk hk1 Fr E hFr hE hFs hEs heFr heE hzE g1 F hF hFz heF hzF s1 s2 G hG hGs m hmm heG (by omega)
          obtain ⟨G, hG⟩ : ∃ G, G = F := ⟨_, rfl⟩
          have hG' : signed F.data.toList = G.data.toList := by rw [hG]; exact signed_none hzF s1 s2
          have hGs : G.size ≤ 9223372036854775807 := by rw [hG]; exact hFz
          obtain ⟨m, hmm⟩ : ∃ m, digN G.data.toList = m := ⟨_, rfl⟩
          have hgne : G.data.toList ≠ [] := (by rw [hG]; exact ba_nn heF)
          by_cases hb : m = G.size
          · have hf : formP F.data.toList = true := by rw [form_is hG', hmm, hb, Lib.size_eq]; simp [hgne]
            rw [hN, hT, hf]
            have k := rparts_kuedm1 s w hs hns hz h45 R hR hRs n hn hn1 Wh R2 hWh hR2 hWs hR2s hnWh h1 hnR2 hz2 h46 R3 hR3 hR3s k hk hk1 Fr E hFr hE hFs hEs heFr heE hzE g1 F hF hFz heF hzF s1 s2 G hG hGs m hmm hb
            rw [← ba_of Wh, ← ba_of Fr, ← ba_of F] at k; exact k
          have hf : formP F.data.toList = false := by
            rw [form_is hG', hmm]
            have : ¬ m = G.data.toList.length := by rw [← Lib.size_eq]; exact hb
            rw [decide_eq_false this, Bool.and_false]
          rw [hN, hT, hf]; exact rparts_xbuedm1 s w hs hns hz h45 R hR hRs n hn hn1 Wh R2 hWh hR2 hWs hR2s hnWh h1 hnR2 hz2 h46 R3 hR3 hR3s k hk hk1 Fr E hFr hE hFs hEs heFr heE hzE g1 F hF hFz heF hzF s1 s2 G hG hGs m hmm (by omega)
        by_cases g2 : ((E[0]'hzE).toNat : Int) = 69
        · have hT : tailN E.data.toList = if formP F.data.toList = true then some F.data.toList else none := by rw [hEl]; exact tail_e (.inr ((byte_is (k := 69) (by decide)).1 g2))
          by_cases heF : F.toList = []
          · have hf : formP F.data.toList = false := by rw [ba_nil heF]; rfl
            rw [hN, hT, hf]; exact rparts_x0Edm1 s w hs hns hz h45 R hR hRs n hn hn1 Wh R2 hWh hR2 hWs hR2s hnWh h1 hnR2 hz2 h46 R3 hR3 hR3s k hk hk1 Fr E hFr hE hFs hEs heFr heE hzE g1 g2 F hF hFz heF
          have hzF := ba_pos heF
          by_cases s1 : ((F[0]'hzF).toNat : Int) = 43
          · obtain ⟨G, hG⟩ : ∃ G, F.extract 1 F.size = G := ⟨_, rfl⟩
            have hG' : signed F.data.toList = G.data.toList := by rw [← hG]; exact signed_one hzF (.inl s1)
            have hGs : G.size ≤ 9223372036854775807 := by rw [← hG]; exact Nat.le_trans (extract1_size F) hFz
            obtain ⟨m, hmm⟩ : ∃ m, digN G.data.toList = m := ⟨_, rfl⟩
            by_cases heG : G.toList = []
            · have hf : formP F.data.toList = false := by rw [form_is hG', ba_nil heG]; rfl
              rw [hN, hT, hf]; exact rparts_xeaEdm1 s w hs hns hz h45 R hR hRs n hn hn1 Wh R2 hWh hR2 hWs hR2s hnWh h1 hnR2 hz2 h46 R3 hR3 hR3s k hk hk1 Fr E hFr hE hFs hEs heFr heE hzE g1 g2 F hF hFz heF hzF s1 G hG hGs m hmm heG
            have hgne : G.data.toList ≠ [] := (ba_nn heG)
            by_cases hb : m = G.size
            · have hf : formP F.data.toList = true := by rw [form_is hG', hmm, hb, Lib.size_eq]; simp [hgne]
              rw [hN, hT, hf]
              have k := rparts_kaEdm1 s w hs hns hz h45 R hR hRs n hn hn1 Wh R2 hWh hR2 hWs hR2s hnWh h1 hnR2 hz2 h46 R3 hR3 hR3s k hk hk1 Fr E hFr hE hFs hEs heFr heE hzE g1 g2 F hF hFz heF hzF s1 G hG hGs m hmm heG hb
              rw [← ba_of Wh, ← ba_of Fr, ← ba_of F] at k; exact k
            have hf : formP F.data.toList = false := by
              rw [form_is hG', hmm]
              have : ¬ m = G.data.toList.length := by rw [← Lib.size_eq]; exact hb
              rw [decide_eq_false this, Bool.and_false]
            rw [hN, hT, hf]; exact rparts_xbaEdm1 s w hs hns hz h45 R hR hRs n hn hn1 Wh R2 hWh hR2 hWs hR2s hnWh h1 hnR2 hz2 h46 R3 hR3 hR3s k hk hk1 Fr E hFr hE hFs hEs heFr heE hzE g1 g2 F hF hFz heF hzF s1 G hG hGs m hmm heG (by omega)
          by_cases s2 : ((F[0]'hzF).toNat : Int) = 45
          · obtain ⟨G, hG⟩ : ∃ G, F.extract 1 F.size = G := ⟨_, rfl⟩
            have hG' : signed F.data.toList = G.data.toList := by rw [← hG]; exact signed_one hzF (.inr s2)
            have hGs : G.size ≤ 9223372036854775807 := by rw [← hG]; exact Nat.le_trans (extract1_size F) hFz
            obtain ⟨m, hmm⟩ : ∃ m, digN G.data.toList = m := ⟨_, rfl⟩
            by_cases heG : G.toList = []
            · have hf : formP F.data.toList = false := by rw [form_is hG', ba_nil heG]; rfl
              rw [hN, hT, hf]; exact rparts_xebEdm1 s w hs hns hz h45 R hR hRs n hn hn1 Wh R2 hWh hR2 hWs hR2s hnWh h1 hnR2 hz2 h46 R3 hR3 hR3s k hk hk1 Fr E hFr hE hFs hEs heFr heE hzE g1 g2 F hF hFz heF hzF s1 s2 G hG hGs m hmm heG
            have hgne : G.data.toList ≠ [] := (ba_nn heG)
            by_cases hb : m = G.size
            · have hf : formP F.data.toList = true := by rw [form_is hG', hmm, hb, Lib.size_eq]; simp [hgne]
              rw [hN, hT, hf]
              have k := rparts_kbEdm1 s w hs hns hz h45 R hR hRs n hn hn1 Wh R2 hWh hR2 hWs hR2s hnWh h1 hnR2 hz2 h46 R3 hR3 hR3s k hk hk1 Fr E hFr hE hFs hEs heFr heE hzE g1 g2 F hF hFz heF hzF s1 s2 G hG hGs m hmm heG hb
              rw [← ba_of Wh, ← ba_of Fr, ← ba_of F] at k; exact k
            have hf : formP F.data.toList = false := by
              rw [form_is hG', hmm]
              have : ¬ m = G.data.toList.length := by rw [← Lib.size_eq]; exact hb
              rw [decide_eq_false this, Bool.and_false]
            rw [hN, hT, hf]; exact rparts_xbbEdm1 s w hs hns hz h45 R hR hRs n hn hn1 Wh R2 hWh hR2 hWs hR2s hnWh h1 hnR2 hz2 h46 R3 hR3 hR3s k hk hk1 Fr E hFr hE hFs hEs heFr heE hzE g1 g2 F hF hFz heF hzF s1 s2 G hG hGs m hmm heG (by omega)
          obtain ⟨G, hG⟩ : ∃ G, G = F := ⟨_, rfl⟩
          have hG' : signed F.data.toList = G.data.toList := by rw [hG]; exact signed_none hzF s1 s2
          have hGs : G.size ≤ 9223372036854775807 := by rw [hG]; exact hFz
          obtain ⟨m, hmm⟩ : ∃ m, digN G.data.toList = m := ⟨_, rfl⟩
          have hgne : G.data.toList ≠ [] := (by rw [hG]; exact ba_nn heF)
          by_cases hb : m = G.size
          · have hf : formP F.data.toList = true := by rw [form_is hG', hmm, hb, Lib.size_eq]; simp [hgne]
            rw [hN, hT, hf]
            have k := rparts_kuEdm1 s w hs hns hz h45 R hR hRs n hn hn1 Wh R2 hWh hR2 hWs hR2s hnWh h1 hnR2 hz2 h46 R3 hR3 hR3s k hk hk1 Fr E hFr hE hFs hEs heFr heE hzE g1 g2 F hF hFz heF hzF s1 s2 G hG hGs m hmm hb
            rw [← ba_of Wh, ← ba_of Fr, ← ba_of F] at k; exact k
          have hf : formP F.data.toList = false := by
            rw [form_is hG', hmm]
            have : ¬ m = G.data.toList.length := by rw [← Lib.size_eq]; exact hb
            rw [decide_eq_false this, Bool.and_false]
          rw [hN, hT, hf]; exact rparts_xbuEdm1 s w hs hns hz h45 R hR hRs n hn hn1 Wh R2 hWh hR2 hWs hR2s hnWh h1 hnR2 hz2 h46 R3 hR3 hR3s k hk hk1 Fr E hFr hE hFs hEs heFr heE hzE g1 g2 F hF hFz heF hzF s1 s2 G hG hGs m hmm (by omega)
        have hT : tailN E.data.toList = none := by rw [hEl]; exact tail_no (fun h => g1 ((byte_is (k := 101) (by decide)).2 h)) (fun h => g2 ((byte_is (k := 69) (by decide)).2 h))
        rw [hN, hT]; exact rparts_odm1 s w hs hns hz h45 R hR hRs n hn hn1 Wh R2 hWh hR2 hWs hR2s hnWh h1 hnR2 hz2 h46 R3 hR3 hR3s k hk hk1 Fr E hFr hE hFs hEs heFr heE hzE g1 g2
      have hd : Lib.hasPrefix R2.data.toList [46] = false := by
        cases h : Lib.hasPrefix R2.data.toList [46]
        · rfl
        · exact absurd ((byte_is (k := 46) (by decide)).2 ((ba_head1 hz2 46).1 h).symm) h46
      obtain ⟨Fr, hFr⟩ : ∃ Fr : ByteArray, Fr = ⟨#[]⟩ := ⟨_, rfl⟩
      obtain ⟨E, hE⟩ : ∃ E, E = R2 := ⟨_, rfl⟩
      have heE : ¬ E.toList = [] := by rw [hE]; exact hnR2
      have hzE := ba_pos heE
      have hEs : E.size ≤ 9223372036854775807 := by rw [hE]; exact hR2s
      have hN : partsN s.data.toList = (tailN E.data.toList).map fun q => (true, Wh.data.toList, [], q) := by rw [hP1, hE]; unfold partN; rw [hd]; rfl
      have hEl := ba_head hzE
      obtain ⟨F, hF⟩ : ∃ F, E.extract 1 E.size = F := ⟨_, rfl⟩
      have hFz : F.size ≤ 9223372036854775807 := by rw [← hF]; exact Nat.le_trans (extract1_size E) hEs
      rw [hF] at hEl
      by_cases g1 : ((E[0]'hzE).toNat : Int) = 101
      · have hT : tailN E.data.toList = if formP F.data.toList = true then some F.data.toList else none := by rw [hEl]; exact tail_e (.inl ((byte_is (k := 101) (by decide)).1 g1))
        by_cases heF : F.toList = []
        · have hf : formP F.data.toList = false := by rw [ba_nil heF]; rfl
          rw [hN, hT, hf]; exact rparts_x0enm1 s w hs hns hz h45 R hR hRs n hn hn1 Wh R2 hWh hR2 hWs hR2s hnWh h1 hnR2 hz2 h46 Fr E hFr hE heE hzE g1 F hF hFz heF
        have hzF := ba_pos heF
        by_cases s1 : ((F[0]'hzF).toNat : Int) = 43
        · obtain ⟨G, hG⟩ : ∃ G, F.extract 1 F.size = G := ⟨_, rfl⟩
          have hG' : signed F.data.toList = G.data.toList := by rw [← hG]; exact signed_one hzF (.inl s1)
          have hGs : G.size ≤ 9223372036854775807 := by rw [← hG]; exact Nat.le_trans (extract1_size F) hFz
          obtain ⟨m, hmm⟩ : ∃ m, digN G.data.toList = m := ⟨_, rfl⟩
          by_cases heG : G.toList = []
          · have hf : formP F.data.toList = false := by rw [form_is hG', ba_nil heG]; rfl
            rw [hN, hT, hf]; exact rparts_xeaenm1 s w hs hns hz h45 R hR hRs n hn hn1 Wh R2 hWh hR2 hWs hR2s hnWh h1 hnR2 hz2 h46 Fr E hFr hE heE hzE g1 F hF hFz heF hzF s1 G hG hGs m hmm heG
          have hgne : G.data.toList ≠ [] := (ba_nn heG)
          by_cases hb : m = G.size
          · have hf : formP F.data.toList = true := by rw [form_is hG', hmm, hb, Lib.size_eq]; simp [hgne]
            rw [hN, hT, hf]
            have k := rparts_kaenm1 s w hs hns hz h45 R hR hRs n hn hn1 Wh R2 hWh hR2 hWs hR2s hnWh h1 hnR2 hz2 h46 Fr E hFr hE heE hzE g1 F hF hFz heF hzF s1 G hG hGs m hmm heG hb
            rw [← ba_of Wh, ← ba_of F] at k; exact k
          have hf : formP F.data.toList = false := by
            rw [form_is hG', hmm]
            have : ¬ m = G.data.toList.length := by rw [← Lib.size_eq]; exact hb
            rw [decide_eq_false this, Bool.and_false]
          rw [hN, hT, hf]; exact rparts_xbaenm1 s w hs hns hz h45 R hR hRs n hn hn1 Wh R2 hWh hR2 hWs hR2s hnWh h1 hnR2 hz2 h46 Fr E hFr hE heE hzE g1 F hF hFz heF hzF s1 G hG hGs m hmm heG (by omega)
        by_cases s2 : ((F[0]'hzF).toNat : Int) = 45
        · obtain ⟨G, hG⟩ : ∃ G, F.extract 1 F.size = G := ⟨_, rfl⟩
          have hG' : signed F.data.toList = G.data.toList := by rw [← hG]; exact signed_one hzF (.inr s2)
          have hGs : G.size ≤ 9223372036854775807 := by rw [← hG]; exact Nat.le_trans (extract1_size F) hFz
          obtain ⟨m, hmm⟩ : ∃ m, digN G.data.toList = m := ⟨_, rfl⟩
          by_cases heG : G.toList = []
          · have hf : formP F.data.toList = false := by rw [form_is hG', ba_nil heG]; rfl
            rw [hN, hT, hf]; exact rparts_xebenm1 s w hs hns hz h45 R hR hRs n hn hn1 Wh R2 hWh hR2 hWs hR2s hnWh h1 hnR2 hz2 h46 Fr E hFr hE heE hzE g1 F hF hFz heF hzF s1 s2 G hG hGs m hmm heG
          have hgne : G.data.toList ≠ [] := (ba_nn heG)
          by_cases hb : m = G.size
          · have hf : formP F.data.toList = true := by rw [form_is hG', hmm, hb, Lib.size_eq]; simp [hgne]
            rw [hN, hT, hf]
            have k := rparts_kbenm1 s w hs hns hz h45 R hR hRs n hn hn1 Wh R2 hWh hR2 hWs hR2s hnWh h1 hnR2 hz2 h46 Fr E hFr hE heE hzE g1 F hF hFz heF hzF s1 s2 G hG hGs m hmm heG hb
            rw [← ba_of Wh, ← ba_of F] at k; exact k
          have hf : formP F.data.toList = false := by
            rw [form_is hG', hmm]
            have : ¬ m = G.data.toList.length := by rw [← Lib.size_eq]; exact hb
            rw [decide_eq_false this, Bool.and_false]
          rw [hN, hT, hf]; exact rparts_xbbenm1 s w hs hns hz h45 R hR hRs n hn hn1 Wh R2 hWh hR2 hWs hR2s hnWh h1 hnR2 hz2 h46 Fr E hFr hE heE hzE g1 F hF hFz heF hzF s1 s2 G hG hGs m hmm heG (by omega)
        obtain ⟨G, hG⟩ : ∃ G, G = F := ⟨_, rfl⟩
        have hG' : signed F.data.toList = G.data.toList := by rw [hG]; exact signed_none hzF s1 s2
        have hGs : G.size ≤ 9223372036854775807 := by rw [hG]; exact hFz
        obtain ⟨m, hmm⟩ : ∃ m, digN G.data.toList = m := ⟨_, rfl⟩
        have hgne : G.data.toList ≠ [] := (by rw [hG]; exact ba_nn heF)
        by_cases hb : m = G.size
        · have hf : formP F.data.toList = true := by rw [form_is hG', hmm, hb, Lib.size_eq]; simp [hgne]
          rw [hN, hT, hf]
          have k := rparts_kuenm1 s w hs hns hz h45 R hR hRs n hn hn1 Wh R2 hWh hR2 hWs hR2s hnWh h1 hnR2 hz2 h46 Fr E hFr hE heE hzE g1 F hF hFz heF hzF s1 s2 G hG hGs m hmm hb
          rw [← ba_of Wh, ← ba_of F] at k; exact k
        have hf : formP F.data.toList = false := by
          rw [form_is hG', hmm]
          have : ¬ m = G.data.toList.length := by rw [← Lib.size_eq]; exact hb
          rw [decide_eq_false this, Bool.and_false]
        rw [hN, hT, hf]; exact rparts_xbuenm1 s w hs hns hz h45 R hR hRs n hn hn1 Wh R2 hWh hR2 hWs hR2s hnWh h1 hnR2 hz2 h46 Fr E hFr hE heE hzE g1 F hF hFz heF hzF s1 s2 G hG hGs m hmm (by omega)
      by_cases g2 : ((E[0]'hzE).toNat : Int) = 69
      · have hT : tailN E.data.toList = if formP F.data.toList = true then some F.data.toList else none := by rw [hEl]; exact tail_e (.inr ((byte_is (k := 69) (by decide)).1 g2))
        by_cases heF : F.toList = []
        · have hf : formP F.data.toList = false := by rw [ba_nil heF]; rfl
          rw [hN, hT, hf]; exact rparts_x0Enm1 s w hs hns hz h45 R hR hRs n hn hn1 Wh R2 hWh hR2 hWs hR2s hnWh h1 hnR2 hz2 h46 Fr E hFr hE heE hzE g1 g2 F hF hFz heF
        have hzF := ba_pos heF
        by_cases s1 : ((F[0]'hzF).toNat : Int) = 43
        · obtain ⟨G, hG⟩ : ∃ G, F.extract 1 F.size = G := ⟨_, rfl⟩
          have hG' : signed F.data.toList = G.data.toList := by rw [← hG]; exact signed_one hzF (.inl s1)
          have hGs : G.size ≤ 9223372036854775807 := by rw [← hG]; exact Nat.le_trans (extract1_size F) hFz
          obtain ⟨m, hmm⟩ : ∃ m, digN G.data.toList = m := ⟨_, rfl⟩
          by_cases heG : G.toList = []
          · have hf : formP F.data.toList = false := by rw [form_is hG', ba_nil heG]; rfl
            rw [hN, hT, hf]; exact rparts_xeaEnm1 s w hs hns hz h45 R hR hRs n hn hn1 Wh R2 hWh hR2 hWs hR2s hnWh h1 hnR2 hz2 h46 Fr E hFr hE heE hzE g1 g2 F hF hFz heF hzF s1 G hG hGs m hmm heG
          have hgne : G.data.toList ≠ [] := (ba_nn heG)
          by_cases hb : m = G.size
          · have hf : formP F.data.toList = true := by rw [form_is hG', hmm, hb, Lib.size_eq]; simp [hgne]
            rw [hN, hT, hf]
            have k := rparts_kaEnm1 s w hs hns hz h45 R hR hRs n hn hn1 Wh R2 hWh hR2 hWs hR2s hnWh h1 hnR2 hz2 h46 Fr E hFr hE heE hzE g1 g2 F hF hFz heF hzF s1 G hG hGs m hmm heG hb
            rw [← ba_of Wh, ← ba_of F] at k; exact k
          have hf : formP F.data.toList = false := by
            rw [form_is hG', hmm]
            have : ¬ m = G.data.toList.length := by rw [← Lib.size_eq]; exact hb
            rw [decide_eq_false this, Bool.and_false]
          rw [hN, hT, hf]; exact rparts_xbaEnm1 s w hs hns hz h45 R hR hRs n hn hn1 Wh R2 hWh hR2 hWs hR2s hnWh h1 hnR2 hz2 h46 Fr E hFr hE heE hzE g1 g2 F hF hFz heF hzF s1 G hG hGs m hmm heG (by omega)
        by_cases s2 : ((F[0]'hzF).toNat : Int) = 45
        · obtain ⟨G, hG⟩ : ∃ G, F.extract 1 F.size = G := ⟨_, rfl⟩
          have hG' : signed F.data.toList = G.data.toList := by rw [← hG]; exact signed_one hzF (.inr s2)
          have hGs : G.size ≤ 9223372036854775807 := by rw [← hG]; exact Nat.le_trans (extract1_size F) hFz
          obtain ⟨m, hmm⟩ : ∃ m, digN G.data.toList = m := ⟨_, rfl⟩
          by_cases heG : G.toList = []
          · have hf : formP F.data.toList = false := by rw [form_is hG', ba_nil heG]; rfl
            rw [hN, hT, hf]; exact rparts_xebEnm1 s w hs hns hz h45 R hR hRs n hn hn1 Wh R2 hWh hR2 hWs hR2s hnWh h1 hnR2 hz2 h46 Fr E hFr hE heE hzE g1 g2 F hF hFz heF hzF s1 s2 G hG hGs m hmm heG
          have hgne : G.data.toList ≠ [] := (ba_nn heG)
          by_cases hb : m = G.size
          · have hf : formP F.data.toList = true := by rw [form_is hG', hmm, hb, Lib.size_eq]; simp [hgne]
            rw [hN, hT, hf]
            have k := rparts_kbEnm1 s w hs hns hz h45 R hR hRs n hn hn1 Wh R2 hWh hR2 hWs hR2s hnWh h1 hnR2 hz2 h46 Fr E hFr hE heE hzE g1 g2 F hF hFz heF hzF s1 s2 G hG hGs m hmm heG hb
            rw [← ba_of Wh, ← ba_of F] at k; exact k
          have hf : formP F.data.toList = false := by
            rw [form_is hG', hmm]
            have : ¬ m = G.data.toList.length := by rw [← Lib.size_eq]; exact hb
            rw [decide_eq_false this, Bool.and_false]
          rw [hN, hT, hf]; exact rparts_xbbEnm1 s w hs hns hz h45 R hR hRs n hn hn1 Wh R2 hWh hR2 hWs hR2s hnWh h1 hnR2 hz2 h46 Fr E hFr hE heE hzE g1 g2 F hF hFz heF hzF s1 s2 G hG hGs m hmm heG (by omega)
        obtain ⟨G, hG⟩ : ∃ G, G = F := ⟨_, rfl⟩
        have hG' : signed F.data.toList = G.data.toList := by rw [hG]; exact signed_none hzF s1 s2
        have hGs : G.size ≤ 9223372036854775807 := by rw [hG]; exact hFz
        obtain ⟨m, hmm⟩ : ∃ m, digN G.data.toList = m := ⟨_, rfl⟩
        have hgne : G.data.toList ≠ [] := (by rw [hG]; exact ba_nn heF)
        by_cases hb : m = G.size
        · have hf : formP F.data.toList = true := by rw [form_is hG', hmm, hb, Lib.size_eq]; simp [hgne]
          rw [hN, hT, hf]
          have k := rparts_kuEnm1 s w hs hns hz h45 R hR hRs n hn hn1 Wh R2 hWh hR2 hWs hR2s hnWh h1 hnR2 hz2 h46 Fr E hFr hE heE hzE g1 g2 F hF hFz heF hzF s1 s2 G hG hGs m hmm hb
          rw [← ba_of Wh, ← ba_of F] at k; exact k
        have hf : formP F.data.toList = false := by
          rw [form_is hG', hmm]
          have : ¬ m = G.data.toList.length := by rw [← Lib.size_eq]; exact hb
          rw [decide_eq_false this, Bool.and_false]
        rw [hN, hT, hf]; exact rparts_xbuEnm1 s w hs hns hz h45 R hR hRs n hn hn1 Wh R2 hWh hR2 hWs hR2s hnWh h1 hnR2 hz2 h46 Fr E hFr hE heE hzE g1 g2 F hF hFz heF hzF s1 s2 G hG hGs m hmm (by omega)
      have hT : tailN E.data.toList = none := by rw [hEl]; exact tail_no (fun h => g1 ((byte_is (k := 101) (by decide)).2 h)) (fun h => g2 ((byte_is (k := 69) (by decide)).2 h))
      rw [hN, hT]; exact rparts_onm1 s w hs hns hz h45 R hR hRs n hn hn1 Wh R2 hWh hR2 hWs hR2s hnWh h1 hnR2 hz2 h46 Fr E hFr hE heE hzE g1 g2
    have h1 : 1 < (Wh.size : Int) := by omega
    by_cases h48 : ((Wh[0]'hzW).toNat : Int) = 48
    · rw [hP0, if_pos (.inr ⟨by omega, by rw [hhead, (byte_is (k := 48) (by decide)).1 h48]; rfl⟩)]
      exact rparts_leadm s w hs hns hz h45 R hR hRs n hn hn1 Wh R2 hWh hR2 hWs hR2s hnWh h1 hzW h48
    have hP1 := hP0
    rw [if_neg (by rintro (h | ⟨-, h⟩); exact h0 h; rw [hhead] at h; exact h48 ((byte_is (k := 48) (by decide)).2 (Option.some.inj h)))] at hP1
    by_cases heR2 : R2.toList = []
    · have hN : partsN s.data.toList = some (true, Wh.data.toList, [], []) := by rw [hP1, ba_nil heR2]; rfl
      rw [hN]
      have k := rparts_zm2 s w hs hns hz h45 R hR hRs n hn hn1 Wh R2 hWh hR2 hWs hR2s hnWh h1 hzW h48 heR2
      rw [← ba_of Wh] at k; exact k
    have hnR2 := heR2
    have hz2 := ba_pos hnR2
    by_cases h46 : ((R2[0]'hz2).toNat : Int) = 46
    · have hd : Lib.hasPrefix R2.data.toList [46] = true := (ba_head1 hz2 46).2 ((byte_is (k := 46) (by decide)).1 h46).symm
      obtain ⟨R3, hR3⟩ : ∃ R3, R2.extract 1 R2.size = R3 := ⟨_, rfl⟩
      have hR3l : R2.data.toList.drop 1 = R3.data.toList := by rw [← hR3]; exact (extract1 R2).symm
      have hR3s : R3.size ≤ 9223372036854775807 := by rw [← hR3]; exact Nat.le_trans (extract1_size R2) hR2s
      have hR3n : R3.size = R2.size - 1 := by rw [Lib.size_eq, ← hR3l, List.length_drop, ← Lib.size_eq]
      obtain ⟨k, hk⟩ : ∃ k, digN R3.data.toList = k := ⟨_, rfl⟩
      have hk1 : k + 1 ≤ R2.size := by
        have := digN_le R3.data.toList
        rw [hk, ← Lib.size_eq] at this
        omega
      obtain ⟨Fr, hFr⟩ : ∃ Fr, R2.extract 1 (1 + k) = Fr := ⟨_, rfl⟩
      obtain ⟨E, hE⟩ : ∃ E, R2.extract (1 + k) R2.size = E := ⟨_, rfl⟩
      have hFl : R3.data.toList.take k = Fr.data.toList := by rw [← hFr, Lib.extract_data, hR3l, Nat.add_sub_cancel_left]
      have hEl0 : R2.data.toList.drop (k + 1) = E.data.toList := by rw [← hE, Lib.extract_data, Nat.add_comm 1 k, List.take_of_length_le (by rw [List.length_drop, Lib.size_eq]; omega)]
      have hFlen : Fr.size = k := by rw [Lib.size_eq, ← hFl, List.length_take, ← Lib.size_eq]; omega
      have hFs : Fr.size ≤ 9223372036854775807 := by omega
      have hEs : E.size ≤ 9223372036854775807 := by rw [Lib.size_eq, ← hEl0, List.length_drop, ← Lib.size_eq]; omega
      by_cases heFr : Fr.toList = []
      · have hk0 : k = 0 := by rw [← hFlen, Lib.size_eq, ba_nil heFr]; rfl
        have hN : partsN s.data.toList = none := by rw [hP1]; unfold partN; rw [hd, if_pos rfl, hR3l, hk, if_pos hk0]; rfl
        rw [hN]; exact rparts_fm2 s w hs hns hz h45 R hR hRs n hn hn1 Wh R2 hWh hR2 hWs hR2s hnWh h1 hzW h48 hnR2 hz2 h46 R3 hR3 hR3s k hk hk1 Fr E hFr hE hFs hEs heFr
      have hk0 : ¬ k = 0 := fun h => heFr (by rw [Lib.toList_data, ← hFl, h]; rfl)
      have hN : partsN s.data.toList = (tailN E.data.toList).map fun q => (true, Wh.data.toList, Fr.data.toList, q) := by rw [hP1]; unfold partN; rw [hd, if_pos rfl, hR3l, hk, if_neg hk0, hFl, hEl0]; rfl
      by_cases heE : E.toList = []
      · rw [hN, ba_nil heE]
        have k := rparts_dem2 s w hs hns hz h45 R hR hRs n hn hn1 Wh R2 hWh hR2 hWs hR2s hnWh h1 hzW h48 hnR2 hz2 h46 R3 hR3 hR3s k hk hk1 Fr E hFr hE hFs hEs heFr heE
        rw [← ba_of Wh, ← ba_of Fr] at k; exact k
      have hzE := ba_pos heE
      have hEl := ba_head hzE
      obtain ⟨F, hF⟩ : ∃ F, E.extract 1 E.size = F := ⟨_, rfl⟩
      have hFz : F.size ≤ 9223372036854775807 := by rw [← hF]; exact Nat.le_trans (extract1_size E) hEs
      rw [hF] at hEl
      by_cases g1 : ((E[0]'hzE).toNat : Int) = 101
      · have hT : tailN E.data.toList = if formP F.data.toList = true then some F.data.toList else none := by rw [hEl]; exact tail_e (.inl ((byte_is (k := 101) (by decide)).1 g1))
        by_cases heF : F.toList = []
        · have hf : formP F.data.toList = false := by rw [ba_nil heF]; rfl
          rw [hN, hT, hf]; exact rparts_x0edm2 s w hs hns hz h45 R hR hRs n hn hn1 Wh R2 hWh hR2 hWs hR2s hnWh h1 hzW h48 hnR2 hz2 h46 R3 hR3 hR3s k hk hk1 Fr E hFr hE hFs hEs heFr heE hzE g1 F hF hFz heF
        have hzF := ba_pos heF
        by_cases s1 : ((F[0]'hzF).toNat : Int) = 43
        · obtain ⟨G, hG⟩ : ∃ G, F.extract 1 F.size = G := ⟨_, rfl⟩
          have hG' : signed F.data.toList = G.data.toList := by rw [← hG]; exact signed_one hzF (.inl s1)
          have hGs : G.size ≤ 9223372036854775807 := by rw [← hG]; exact Nat.le_trans (extract1_size F) hFz
          obtain ⟨m, hmm⟩ : ∃ m, digN G.data.toList = m := ⟨_, rfl⟩
          by_cases heG : G.toList = []
          · have hf : formP F.data.toList = false := by rw [form_is hG', ba_nil heG]; rfl
            rw [hN, hT, hf]; exact rparts_xeaedm2 s w hs hns hz h45 R hR hRs n hn hn1 Wh R2 hWh hR2 hWs hR2s hnWh h1 hzW h48 hnR2 hz2 h46 R3 hR3 hR3s k hk hk1 Fr E hFr hE hFs hEs heFr heE hzE g1 F hF hFz heF hzF s1 G hG hGs m hmm heG
          have hgne : G.data.toList ≠ [] := (ba_nn heG)
          by_cases hb : m = G.size
          · have hf : formP F.data.toList = true := by rw [form_is hG', hmm, hb, Lib.size_eq]; simp [hgne]
            rw [hN, hT, hf]
            have k := rparts_kaedm2 s w hs hns hz h45 R hR hRs n hn hn1 Wh R2 hWh hR2 hWs hR2s hnWh h1 hzW h48 hnR2 hz2 h46 R3 hR3 hR3s k hk hk1 Fr E hFr hE hFs hEs heFr heE hzE g1 F hF hFz heF hzF s1 G hG hGs m hmm heG hb
            rw [← ba_of Wh, ← ba_of Fr, ← ba_of F] at k; exact k
          have hf : formP F.data.toList = false := by
            rw [form_is hG', hmm]
            have : ¬ m = G.data.toList.length := by rw [← Lib.size_eq]; exact hb
            rw [decide_eq_false this, Bool.and_false]
          rw [hN, hT, hf]; exact rparts_xbaedm2 s w hs hns hz h45 R hR hRs n hn hn1 Wh R2 hWh hR2 hWs hR2s hnWh h1 hzW h48 hnR2 hz2 h46 R3 hR3 hR3s k hk hk1 Fr E hFr hE hFs hEs heFr heE hzE g1 F hF hFz heF hzF s1 G hG hGs m hmm heG (by omega)
        by_cases s2 : ((F[0]'hzF).toNat : Int) = 45
        · obtain ⟨G, hG⟩ : ∃ G, F.extract 1 F.size = G := ⟨_, rfl⟩
          have hG' : signed F.data.toList = G.data.toList := by rw [← hG]; exact signed_one hzF (.inr s2)
          have hGs : G.size ≤ 9223372036854775807 := by rw [← hG]; exact Nat.le_trans (extract1_size F) hFz
          obtain ⟨m, hmm⟩ : ∃ m, digN G.data.toList = m := ⟨_, rfl⟩
          by_cases heG : G.toList = []
          · have hf : formP F.data.toList = false := by rw [form_is hG', ba_nil heG]; rfl
            rw [hN, hT, hf]; exact rparts_xebedm2 s w hs hns hz h45 R hR hRs n hn hn1 Wh R2 hWh hR2 hWs hR2s hnWh h1 hzW h48 hnR2 hz2 h46 R3 hR3 hR3s k hk hk1 Fr E hFr hE hFs hEs heFr heE hzE g1 F hF hFz heF hzF s1 s2 G hG hGs m hmm heG
          have hgne : G.data.toList ≠ [] := (ba_nn heG)
          by_cases hb : m = G.size
          · have hf : formP F.data.toList = true := by rw [form_is hG', hmm, hb, Lib.size_eq]; simp [hgne]
            rw [hN, hT, hf]
            have k := rparts_kbedm2 s w hs hns hz h45 R hR hRs n hn hn1 Wh R2 hWh hR2 hWs hR2s hnWh h1 hzW h48 hnR2 hz2 h46 R3 hR3 hR3s k hk hk1 Fr E hFr hE hFs hEs heFr heE hzE g1 F hF hFz heF hzF s1 s2 G hG hGs m hmm heG hb
            rw [← ba_of Wh, ← ba_of Fr, ← ba_of F] at k; exact k
          have hf : formP F.data.toList = false := by
            rw [form_is hG', hmm]
            have : ¬ m = G.data.toList.length := by rw [← Lib.size_eq]; exact hb
            rw [decide_eq_false this, Bool.and_false]
          rw [hN, hT, hf]; exact rparts_xbbedm2 s w hs hns hz h45 R hR hRs n hn hn1 Wh R2 hWh hR2 hWs hR2s hnWh h1 hzW h48 hnR2 hz2 h46 R3 hR3 hR3s k hk hk1 Fr E hFr hE hFs hEs heFr heE hzE g1 F hF hFz heF hzF s1 s2 G hG hGs m hmm heG (by omega)
        obtain ⟨G, hG⟩ : ∃ G, G = F := ⟨_, rfl⟩
        have hG' : signed F.data.toList = G.data.toList := by rw [hG]; exact signed_none hzF s1 s2
        have hGs : G.size ≤ 9223372036854775807 := by rw [hG]; exact hFz
        obtain ⟨m, hmm⟩ : ∃ m, digN G.data.toList = m := ⟨_, rfl⟩
        have hgne : G.data.toList ≠ [] := (by rw [hG]; exact ba_nn heF)
        by_cases hb : m = G.size
        · have hf : formP F.data.toList = true := by rw [form_is hG', hmm, hb, Lib.size_eq]; simp [hgne]
          rw [hN, hT, hf]
          have k := rparts_kuedm2 s w hs hns hz h45 R hR hRs n hn hn1 Wh R2 hWh hR2 hWs hR2s hnWh h1 hzW h48 hnR2 hz2 h46 R3 hR3 hR3s k hk hk1 Fr E hFr hE hFs hEs heFr heE hzE g1 F hF hFz heF hzF s1 s2 G hG hGs m hmm hb
          rw [← ba_of Wh, ← ba_of Fr, ← ba_of F] at k; exact k
        have hf : formP F.data.toList = false := by
          rw [form_is hG', hmm]
          have : ¬ m = G.data.toList.length := by rw [← Lib.size_eq]; exact hb
          rw [decide_eq_false this, Bool.and_false]
        rw [hN, hT, hf]; exact rparts_xbuedm2 s w hs hns hz h45 R hR hRs n hn hn1 Wh R2 hWh hR2 hWs hR2s hnWh h1 hzW h48 hnR2 hz2 h46 R3 hR3 hR3s k hk hk1 Fr E hFr hE hFs hEs heFr heE hzE g1 F hF hFz heF hzF s1 s2 G hG hGs m hmm (by omega)
      by_cases g2 : ((E[0]'hzE).toNat : Int) = 69
      · have hT : tailN E.data.toList = if formP F.data.toList = true then some F.data.toList else none := by rw [hEl]; exact tail_e (.inr ((byte_is (k := 69) (by decide)).1 g2))
        by_cases heF : F.toList = []
        · have hf : formP F.data.toList = false := by rw [ba_nil heF]; rfl
          rw [hN, hT, hf]; exact rparts_x0Edm2 s w hs hns hz h45 R hR hRs n hn hn1 Wh R2 hWh hR2 hWs hR2s hnWh h1 hzW h48 hnR2 hz2 h46 R3 hR3 hR3s k hk hk1 Fr E hFr hE hFs hEs heFr heE hzE g1 g2 F hF hFz heF
        have hzF := ba_pos heF
        by_cases s1 : ((F[0]'hzF).toNat : Int) = 43
        · obtain ⟨G, hG⟩ : ∃ G, F.extract 1 F.size = G := ⟨_, rfl⟩
          have hG' : signed F.data.toList = G.data.toList := by rw [← hG]; exact signed_one hzF (.inl s1)
          have hGs : G.size ≤ 9223372036854775807 := by rw [← hG]; exact Nat.le_trans (extract1_size F) hFz
          obtain ⟨m, hmm⟩ : ∃ m, digN G.data.toList = m := ⟨_, rfl⟩
          by_cases heG : G.toList = []
          · have hf : formP F.data.toList = false := by rw [form_is hG', ba_nil heG]; rfl
            rw [hN, hT, hf]; exact rparts_xeaEdm2 s w hs hns hz h45 R hR hRs n hn hn1 Wh R2 hWh hR2 hWs hR2s hnWh h1 hzW h48 hnR2 hz2 h46 R3 hR3 hR3s k hk hk1 Fr E hFr hE hFs hEs heFr heE hzE g1 g2 F hF hFz heF hzF s1 G hG hGs m hmm heG
          have hgne : G.data.toList ≠ [] := (ba_nn heG)
          by_cases hb : m = G.size
          · have hf : formP F.data.toList = true := by rw [form_is hG', hmm, hb, Lib.size_eq]; simp [hgne]
            rw [hN, hT, hf]
            have k := rparts_kaEdm2 s w hs hns hz h45 R hR hRs n hn hn1 Wh R2 hWh hR2 hWs hR2s hnWh h1 hzW h48 hnR2 hz2 h46 R3 hR3 hR3s k hk hk1 Fr E hFr hE hFs hEs heFr heE hzE g1 g2 F hF hFz heF hzF s1 G hG hGs m hmm heG hb
            rw [← ba_of Wh, ← ba_of Fr, ← ba_of F] at k; exact k
          have hf : formP F.data.toList = false := by
            rw [form_is hG', hmm]
            have : ¬ m = G.data.toList.length := by rw [← Lib.size_eq]; exact hb
            rw [decide_eq_false this, Bool.and_false]
          rw [hN, hT, hf]; exact rparts_xbaEdm2 s w hs hns hz h45 R hR hRs n hn hn1 Wh R2 hWh hR2 hWs hR2s hnWh h1 hzW h48 hnR2 hz2 h46 R3 hR3 hR3s k hk hk1 Fr E hFr hE hFs hEs heFr heE hzE g1 g2 F hF hFz heF hzF s1 G hG hGs m hmm heG (by omega)
        by_cases s2 : ((F[0]'hzF).toNat : Int) = 45
        · obtain ⟨G, hG⟩ : ∃ G, F.extract 1 F.size = G := ⟨_, rfl⟩
          have hG' : signed F.data.toList = G.data.toList := by rw [← hG]; exact signed_one hzF (.inr s2)
          have hGs : G.size ≤ 9223372036854775807 := by rw [← hG]; exact Nat.le_trans (extract1_size F) hFz
          obtain ⟨m, hmm⟩ : ∃ m, digN G.data.toList = m := ⟨_, rfl⟩
          by_cases heG : G.toList = []
          · have hf : formP F.data.toList = false := by rw [form_is hG', ba_nil heG]; rfl
            rw [hN, hT, hf]; exact rparts_xebEdm2 s w hs hns hz h45 R hR hRs n hn hn1 Wh R2 hWh hR2 hWs hR2s hnWh h1 hzW h48 hnR2 hz2 h46 R3 hR3 hR3s k hk hk1 Fr E hFr hE hFs hEs heFr heE hzE g1 g2 F hF hFz heF hzF s1 s2 G hG hGs m hmm heG
          have hgne : G.data.toList ≠ [] := (ba_nn heG)
          by_cases hb : m = G.size
          · have hf : formP F.data.toList = true := by rw [form_is hG', hmm, hb, Lib.size_eq]; simp [hgne]
            rw [hN, hT, hf]
            have k := rparts_kbEdm2 s w hs hns hz h45 R hR hRs n hn hn1 Wh R2 hWh hR2 hWs hR2s hnWh h1 hzW h48 hnR2 hz2 h46 R3 hR3 hR3s k hk hk1 Fr E hFr hE hFs hEs heFr heE hzE g1 g2 F hF hFz heF hzF s1 s2 G hG hGs m hmm heG hb
            rw [← ba_of Wh, ← ba_of Fr, ← ba_of F] at k; exact k
          have hf : formP F.data.toList = false := by
            rw [form_is hG', hmm]
            have : ¬ m = G.data.toList.length := by rw [← Lib.size_eq]; exact hb
            rw [decide_eq_false this, Bool.and_false]
          rw [hN, hT, hf]; exact rparts_xbbEdm2 s w hs hns hz h45 R hR hRs n hn hn1 Wh R2 hWh hR2 hWs hR2s hnWh h1 hzW h48 hnR2 hz2 h46 R3 hR3 hR3s k hk hk1 Fr E hFr hE hFs hEs heFr heE hzE g1 g2 F hF hFz heF hzF s1 s2 G hG hGs m hmm heG (by omega)
        obtain ⟨G, hG⟩ : ∃ G, G = F := ⟨_, rfl⟩
        have hG' : signed F.data.toList = G.data.toList := by rw [hG]; exact signed_none hzF s1 s2
        have hGs : G.size ≤ 9223372036854775807 := by rw [hG]; exact hFz
        obtain ⟨m, hmm⟩ : ∃ m, digN G.data.toList = m := ⟨_, rfl⟩
        have hgne : G.data.toList ≠ [] := (by rw [hG]; exact ba_nn heF)
        by_cases hb : m = G.size
        · have hf : formP F.data.toList = true := by rw [form_is hG', hmm, hb, Lib.size_eq]; simp [hgne]
          rw [hN, hT, hf]
          have k := rparts_kuEdm2 s w hs hns hz h45 R hR hRs n hn hn1 Wh R2 hWh hR2 hWs hR2s hnWh h1 hzW h48 hnR2 hz2 h46 R3 hR3 hR3s k hk hk1 Fr E hFr hE hFs hEs heFr heE hzE g1 g2 F hF hFz heF hzF s1 s2 G hG hGs m hmm hb
          rw [← ba_of Wh, ← ba_of Fr, ← ba_of F] at k; exact k
        have hf : formP F.data.toList = false := by
          rw [form_is hG', hmm]
          have : ¬ m = G.data.toList.length := by rw [← Lib.size_eq]; exact hb
          rw [decide_eq_false this, Bool.and_false]
        rw [hN, hT, hf]; exact rparts_xbuEdm2 s w hs hns hz h45 R hR hRs n hn hn1 Wh R2 hWh hR2 hWs hR2s hnWh h1 hzW h48 hnR2 hz2 h46 R3 hR3 hR3s k hk hk1 Fr E hFr hE hFs hEs heFr heE hzE g1 g2 F hF hFz heF hzF s1 s2 G hG hGs m hmm (by omega)
      have hT : tailN E.data.toList = none := by rw [hEl]; exact tail_no (fun h => g1 ((byte_is (k := 101) (by decide)).2 h)) (fun h => g2 ((byte_is (k := 69) (by decide)).2 h))
      rw [hN, hT]; exact rparts_odm2 s w hs hns hz h45 R hR hRs n hn hn1 Wh R2 hWh hR2 hWs hR2s hnWh h1 hzW h48 hnR2 hz2 h46 R3 hR3 hR3s k hk hk1 Fr E hFr hE hFs hEs heFr heE hzE g1 g2
    have hd : Lib.hasPrefix R2.data.toList [46] = false := by
      cases h : Lib.hasPrefix R2.data.toList [46]
      · rfl
      · exact absurd ((byte_is (k := 46) (by decide)).2 ((ba_head1 hz2 46).1 h).symm) h46
    obtain ⟨Fr, hFr⟩ : ∃ Fr : ByteArray, Fr = ⟨#[]⟩ := ⟨_, rfl⟩
    obtain ⟨E, hE⟩ : ∃ E, E = R2 := ⟨_, rfl⟩
    have heE : ¬ E.toList = [] := by rw [hE]; exact hnR2
    have hzE := ba_pos heE
    have hEs : E.size ≤ 9223372036854775807 := by rw [hE]; exact hR2s
    have hN : partsN s.data.toList = (tailN E.data.toList).map fun q => (true, Wh.data.toList, [], q) := by rw [hP1, hE]; unfold partN; rw [hd]; rfl
    have hEl := ba_head hzE
    obtain ⟨F, hF⟩ : ∃ F, E.extract 1 E.size = F := ⟨_, rfl⟩
    have hFz : F.size ≤ 9223372036854775807 := by rw [← hF]; exact Nat.le_trans (extract1_size E) hEs
    rw [hF] at hEl
    by_cases g1 : ((E[0]'hzE).toNat : Int) = 101
    · have hT : tailN E.data.toList = if formP F.data.toList = true then some F.data.toList else none := by rw [hEl]; exact tail_e (.inl ((byte_is (k := 101) (by decide)).1 g1))
      by_cases heF : F.toList = []
      · have hf : formP F.data.toList = false := by rw [ba_nil heF]; rfl
        rw [hN, hT, hf]; exact rparts_x0enm2 s w hs hns hz h45 R hR hRs n hn hn1 Wh R2 hWh hR2 hWs hR2s hnWh h1 hzW h48 hnR2 hz2 h46 Fr E hFr hE heE hzE g1 F hF hFz heF
      have hzF := ba_pos heF
      by_cases s1 : ((F[0]'hzF).toNat : Int) = 43
      · obtain ⟨G, hG⟩ : ∃ G, F.extract 1 F.size = G := ⟨_, rfl⟩
        have hG' : signed F.data.toList = G.data.toList := by rw [← hG]; exact signed_one hzF (.inl s1)
        have hGs : G.size ≤ 9223372036854775807 := by rw [← hG]; exact Nat.le_trans (extract1_size F) hFz
        obtain ⟨m, hmm⟩ : ∃ m, digN G.data.toList = m := ⟨_, rfl⟩
        by_cases heG : G.toList = []
        · have hf : formP F.data.toList = false := by rw [form_is hG', ba_nil heG]; rfl
          rw [hN, hT, hf]; exact rparts_xeaenm2 s w hs hns hz h45 R hR hRs n hn hn1 Wh R2 hWh hR2 hWs hR2s hnWh h1 hzW h48 hnR2 hz2 h46 Fr E hFr hE heE hzE g1 F hF hFz heF hzF s1 G hG hGs m hmm heG
        have hgne : G.data.toList ≠ [] := (ba_nn heG)
        by_cases hb : m = G.size
        · have hf : formP F.data.toList = true := by rw [form_is hG', hmm, hb, Lib.size_eq]; simp [hgne]
          rw [hN, hT, hf]
          have k := rparts_kaenm2 s w hs hns hz h45 R hR hRs n hn hn1 Wh R2 hWh hR2 hWs hR2s hnWh h1 hzW h48 hnR2 hz2 h46 Fr E hFr hE heE hzE g1 F hF hFz heF hzF s1 G hG hGs m hmm heG hb
          rw [← ba_of Wh, ← ba_of F] at k; exact k
        have hf : formP F.data.toList = false := by
          rw [form_is hG', hmm]
          have : ¬ m = G.data.toList.length := by rw [← Lib.size_eq]; exact hb
          rw [decide_eq_false this, Bool.and_false]
        rw [hN, hT, hf]; exact rparts_xbaenm2 s w hs hns hz h45 R hR hRs n hn hn1 Wh R2 hWh hR2 hWs hR2s hnWh h1 hzW h48 hnR2 hz2 h46 Fr E hFr hE heE hzE g1 F hF hFz heF hzF s1 G hG hGs m hmm heG (by omega)
      by_cases s2 : ((F[0]'hzF).toNat : Int) = 45
      · obtain ⟨G, hG⟩ : ∃ G, F.extract 1 F.size = G := ⟨_, rfl⟩
        have hG' : signed F.data.toList = G.data.toList := by rw [← hG]; exact signed_one hzF (.inr s2)
        have hGs : G.size ≤ 9223372036854775807 := by rw [← hG]; exact Nat.le_trans (extract1_size F) hFz
        obtain ⟨m, hmm⟩ : ∃ m, digN G.data.toList = m := ⟨_, rfl⟩
        by_cases heG : G.toList = []
        · have hf : formP F.data.toList = false := by rw [form_is hG', ba_nil heG]; rfl
          rw [hN, hT, hf]; exact rparts_xebenm2 s w hs hns hz h45 R hR hRs n hn hn1 Wh R2 hWh hR2 hWs hR2s hnWh h1 hzW h48 hnR2 hz2 h46 Fr E hFr hE heE hzE g1 F hF hFz heF hzF s1 s2 G hG hGs m hmm heG
        have hgne : G.data.toList ≠ [] := (ba_nn heG)
        by_cases hb : m = G.size
        · have hf : formP F.data.toList = true := by rw [form_is hG', hmm, hb, Lib.size_eq]; simp [hgne]
          rw [hN, hT, hf]
          have k := rparts_kbenm2 s w hs hns hz h45 R hR hRs n hn hn1 Wh R2 hWh hR2 hWs hR2s hnWh h1 hzW h48 hnR2 hz2 h46 Fr E hFr hE heE hzE g1 F hF hFz heF hzF s1 s2 G hG hGs m hmm heG hb
          rw [← ba_of Wh, ← ba_of F] at k; exact k
        have hf : formP F.data.toList = false := by
          rw [form_is hG', hmm]
          have : ¬ m = G.data.toList.length := by rw [← Lib.size_eq]; exact hb
          rw [decide_eq_false this, Bool.and_false]
        rw [hN, hT, hf]; exact rparts_xbbenm2 s w hs hns hz h45 R hR hRs n hn hn1 Wh R2 hWh hR2 hWs hR2s hnWh h1 hzW h48 hnR2 hz2 h46 Fr E hFr hE heE hzE g1 F hF hFz heF hzF s1 s2 G hG hGs m hmm heG (by omega)
      obtain ⟨G, hG⟩ : ∃ G, G = F := ⟨_, rfl⟩
      have hG' : signed F.data.toList = G.data.toList := by rw [hG]; exact signed_none hzF s1 s2
      have hGs : G.size ≤ 9223372036854775807 := by rw [hG]; exact hFz
      obtain ⟨m, hmm⟩ : ∃ m, digN G.data.toList = m := ⟨_, rfl⟩
      have hgne : G.data.toList ≠ [] := (by rw [hG]; exact ba_nn heF)
      by_cases hb : m = G.size
      · have hf : formP F.data.toList = true := by rw [form_is hG', hmm, hb, Lib.size_eq]; simp [hgne]
        rw [hN, hT, hf]
        have k := rparts_kuenm2 s w hs hns hz h45 R hR hRs n hn hn1 Wh R2 hWh hR2 hWs hR2s hnWh h1 hzW h48 hnR2 hz2 h46 Fr E hFr hE heE hzE g1 F hF hFz heF hzF s1 s2 G hG hGs m hmm hb
        rw [← ba_of Wh, ← ba_of F] at k; exact k
      have hf : formP F.data.toList = false := by
        rw [form_is hG', hmm]
        have : ¬ m = G.data.toList.length := by rw [← Lib.size_eq]; exact hb
        rw [decide_eq_false this, Bool.and_false]
      rw [hN, hT, hf]; exact rparts_xbuenm2 s w hs hns hz h45 R hR hRs n hn hn1 Wh R2 hWh hR2 hWs hR2s hnWh h1 hzW h48 hnR2 hz2 h46 Fr E hFr hE heE hzE g1 F hF hFz heF hzF s1 s2 G hG hGs m hmm (by omega)
    by_cases g2 : ((E[0]'hzE).toNat : Int) = 69
    · have hT : tailN E.data.toList = if formP F.data.toList = true then some F.data.toList else none := by rw [hEl]; exact tail_e (.inr ((byte_is (k := 69) (by decide)).1 g2))
      by_cases heF : F.toList = []
      · have hf : formP F.data.toList = false := by rw [ba_nil heF]; rfl
        rw [hN, hT, hf]; exact rparts_x0Enm2 s w hs hns hz h45 R hR hRs n hn hn1 Wh R2 hWh hR2 hWs hR2s hnWh h1 hzW h48 hnR2 hz2 h46 Fr E hFr hE heE hzE g1 g2 F hF hFz heF
      have hzF := ba_pos heF
      by_cases s1 : ((F[0]'hzF).toNat : Int) = 43
      · obtain ⟨G, hG⟩ : ∃ G, F.extract 1 F.size = G := ⟨_, rfl⟩
        have hG' : signed F.data.toList = G.data.toList := by rw [← hG]; exact signed_one hzF (.inl s1)
        have hGs : G.size ≤ 9223372036854775807 := by rw [← hG]; exact Nat.le_trans (extract1_size F) hFz
        obtain ⟨m, hmm⟩ : ∃ m, digN G.data.toList = m := ⟨_, rfl⟩
        by_cases heG : G.toList = []
        · have hf : formP F.data.toList = false := by rw [form_is hG', ba_nil heG]; rfl
          rw [hN, hT, hf]; exact rparts_xeaEnm2 s w hs hns hz h45 R hR hRs n hn hn1 Wh R2 hWh hR2 hWs hR2s hnWh h1 hzW h48 hnR2 hz2 h46 Fr E hFr hE heE hzE g1 g2 F hF hFz heF hzF s1 G hG hGs m hmm heG
        have hgne : G.data.toList ≠ [] := (ba_nn heG)
        by_cases hb : m = G.size
        · have hf : formP F.data.toList = true := by rw [form_is hG', hmm, hb, Lib.size_eq]; simp [hgne]
          rw [hN, hT, hf]
          have k := rparts_kaEnm2 s w hs hns hz h45 R hR hRs n hn hn1 Wh R2 hWh hR2 hWs hR2s hnWh h1 hzW h48 hnR2 hz2 h46 Fr E hFr hE heE hzE g1 g2 F hF hFz heF hzF s1 G hG hGs m hmm heG hb
          rw [← ba_of Wh, ← ba_of F] at k; exact k
        have hf : formP F.data.toList = false := by
          rw [form_is hG', hmm]
          have : ¬ m = G.data.toList.length := by rw [← Lib.size_eq]; exact hb
          rw [decide_eq_false this, Bool.and_false]
        rw [hN, hT, hf]; exact rparts_xbaEnm2 s w hs hns hz h45 R hR hRs n hn hn1 Wh R2 hWh hR2 hWs hR2s hnWh h1 hzW h48 hnR2 hz2 h46 Fr E hFr hE heE hzE g1 g2 F hF hFz heF hzF s1 G hG hGs m hmm heG (by omega)
      by_cases s2 : ((F[0]'hzF).toNat : Int) = 45
      · obtain ⟨G, hG⟩ : ∃ G, F.extract 1 F.size = G := ⟨_, rfl⟩
        have hG' : signed F.data.toList = G.data.toList := by rw [← hG]; exact signed_one hzF (.inr s2)
        have hGs : G.size ≤ 9223372036854775807 := by rw [← hG]; exact Nat.le_trans (extract1_size F) hFz
        obtain ⟨m, hmm⟩ : ∃ m, digN G.data.toList = m := ⟨_, rfl⟩
        by_cases heG : G.toList = []
        · have hf : formP F.data.toList = false := by rw [form_is hG', ba_nil heG]; rfl
          rw [hN, hT, hf]; exact rparts_xebEnm2 s w hs hns hz h45 R hR hRs n hn hn1 Wh R2 hWh hR2 hWs hR2s hnWh h1 hzW h48 hnR2 hz2 h46 Fr E hFr hE heE hzE g1 g2 F hF hFz heF hzF s1 s2 G hG hGs m hmm heG
        have hgne : G.data.toList ≠ [] := (ba_nn heG)
        by_cases hb : m = G.size
        · have hf : formP F.data.toList = true := by rw [form_is hG', hmm, hb, Lib.size_eq]; simp [hgne]
          rw [hN, hT, hf]
          have k := rparts_kbEnm2 s w hs hns hz h45 R hR hRs n hn hn1 Wh R2 hWh hR2 hWs hR2s hnWh h1 hzW h48 hnR2 hz2 h46 Fr E hFr hE heE hzE g1 g2 F hF hFz heF hzF s1 s2 G hG hGs m hmm heG hb
          rw [← ba_of Wh, ← ba_of F] at k; exact k
        have hf : formP F.data.toList = false := by
          rw [form_is hG', hmm]
          have : ¬ m = G.data.toList.length := by rw [← Lib.size_eq]; exact hb
          rw [decide_eq_false this, Bool.and_false]
        rw [hN, hT, hf]; exact rparts_xbbEnm2 s w hs hns hz h45 R hR hRs n hn hn1 Wh R2 hWh hR2 hWs hR2s hnWh h1 hzW h48 hnR2 hz2 h46 Fr E hFr hE heE hzE g1 g2 F hF hFz heF hzF s1 s2 G hG hGs m hmm heG (by omega)
      obtain ⟨G, hG⟩ : ∃ G, G = F := ⟨_, rfl⟩
      have hG' : signed F.data.toList = G.data.toList := by rw [hG]; exact signed_none hzF s1 s2
      have hGs : G.size ≤ 9223372036854775807 := by rw [hG]; exact hFz
      obtain ⟨m, hmm⟩ : ∃ m, digN G.data.toList = m := ⟨_, rfl⟩
      have hgne : G.data.toList ≠ [] := (by rw [hG]; exact ba_nn heF)
      by_cases hb : m = G.size
      · have hf : formP F.data.toList = true := by rw [form_is hG', hmm, hb, Lib.size_eq]; simp [hgne]
        rw [hN, hT, hf]
        have k := rparts_kuEnm2 s w hs hns hz h45 R hR hRs n hn hn1 Wh R2 hWh hR2 hWs hR2s hnWh h1 hzW h48 hnR2 hz2 h46 Fr E hFr hE heE hzE g1 g2 F hF hFz heF hzF s1 s2 G hG hGs m hmm hb
        rw [← ba_of Wh, ← ba_of F] at k; exact k
      have hf : formP F.data.toList = false := by
        rw [form_is hG', hmm]
        have : ¬ m = G.data.toList.length := by rw [← Lib.size_eq]; exact hb
        rw [decide_eq_false this, Bool.and_false]
      rw [hN, hT, hf]; exact rparts_xbuEnm2 s w hs hns hz h45 R hR hRs n hn hn1 Wh R2 hWh hR2 hWs hR2s hnWh h1 hzW h48 hnR2 hz2 h46 Fr E hFr hE heE hzE g1 g2 F hF hFz heF hzF s1 s2 G hG hGs m hmm (by omega)
    have hT : tailN E.data.toList = none := by rw [hEl]; exact tail_no (fun h => g1 ((byte_is (k := 101) (by decide)).2 h)) (fun h => g2 ((byte_is (k := 69) (by decide)).2 h))
    rw [hN, hT]; exact rparts_onm2 s w hs hns hz h45 R hR hRs n hn hn1 Wh R2 hWh hR2 hWs hR2s hnWh h1 hzW h48 hnR2 hz2 h46 Fr E hFr hE heE hzE g1 g2
  have hm : Lib.hasPrefix s.data.toList [45] = false := by
    cases h : Lib.hasPrefix s.data.toList [45]
    · rfl
    · exact absurd ((byte_is (k := 45) (by decide)).2 ((ba_head1 hz 45).1 h).symm) h45
  obtain ⟨R, hR⟩ : ∃ R, R = s := ⟨_, rfl⟩
  have hRl : Lib.trimPrefix s.data.toList [45] = R.data.toList := by rw [hR]; unfold Lib.trimPrefix; rw [hm]; rfl
  have hRs : R.size ≤ 9223372036854775807 := by rw [Lib.size_eq, ← hRl]; exact Nat.le_trans (Lib.trimPrefix_le _ _) (by rw [← Lib.size_eq]; exact hs)
  obtain ⟨n, hn⟩ : ∃ n, digN R.data.toList = n := ⟨_, rfl⟩
  have hn1 : n ≤ R.size := by rw [← hn, Lib.size_eq]; exact digN_le _
  obtain ⟨Wh, hWh⟩ : ∃ Wh, R.extract 0 n = Wh := ⟨_, rfl⟩
  obtain ⟨R2, hR2⟩ : ∃ R2, R.extract n R.size = R2 := ⟨_, rfl⟩
  have hWl : R.data.toList.take n = Wh.data.toList := by rw [← hWh, Lib.extract_data]; simp
  have hWlen : Wh.size = n := by rw [Lib.size_eq, ← hWl, List.length_take, ← Lib.size_eq]; omega
  have hWs : Wh.size ≤ 9223372036854775807 := by omega
  have hR2l : R.data.toList.drop n = R2.data.toList := by rw [← hR2, Lib.extract_data, List.take_of_length_le (by rw [List.length_drop, Lib.size_eq]; omega)]
  have hR2s : R2.size ≤ 9223372036854775807 := by rw [Lib.size_eq, ← hR2l, List.length_drop, ← Lib.size_eq]; omega
  have hP0 : partsN s.data.toList = if n = 0 ∨ (1 < n ∧ R.data.toList.head? = some 48) then none else (partN R2.data.toList).bind fun pr => (tailN pr.2).map fun q => (false, Wh.data.toList, pr.1, q) := by
    unfold partsN; rw [hRl, hn, hm, hWl, hR2l]
  by_cases h0 : n = 0
  · rw [hP0, if_pos (.inl h0)]
    exact rparts_zerop s w hs hns hz h45 R hR hRs n hn hn1 Wh R2 hWh hR2 hWs hR2s (by rw [Lib.toList_data, ← hWl, h0]; rfl)
  have hnWh : ¬ Wh.toList = [] := fun h => h0 (by rw [← hWlen, Lib.size_eq, ba_nil h]; rfl)
  have hzW := ba_pos hnWh
  have hhead : R.data.toList.head? = some (Wh[0]'hzW) := by
    have e1 := ba_head hzW
    rw [← hWl] at e1
    cases hq : R.data.toList with
    | nil => rw [hq] at e1; simp at e1
    | cons c r =>
      rw [hq] at e1
      obtain ⟨n', rfl⟩ : ∃ n', n = n' + 1 := ⟨n - 1, by omega⟩
      rw [List.take_succ_cons] at e1
      rw [(List.cons.inj e1).1]; rfl
  by_cases h1 : (Wh.size : Int) ≤ 1
  · have hP1 := hP0
    rw [if_neg (by rintro (h | h); exact h0 h; omega)] at hP1
    by_cases heR2 : R2.toList = []
    · have hN : partsN s.data.toList = some (false, Wh.data.toList, [], []) := by rw [hP1, ba_nil heR2]; rfl
      rw [hN]
      have k := rparts_zp1 s w hs hns hz h45 R hR hRs n hn hn1 Wh R2 hWh hR2 hWs hR2s hnWh h1 heR2
      rw [← ba_of Wh] at k; exact k
    have hnR2 := heR2
    have hz2 := ba_pos hnR2
    by_cases h46 : ((R2[0]'hz2).toNat : Int) = 46
    · have hd : Lib.hasPrefix R2.data.toList [46] = true := (ba_head1 hz2 46).2 ((byte_is (k := 46) (by decide)).1 h46).symm
      obtain ⟨R3, hR3⟩ : ∃ R3, R2.extract 1 R2.size = R3 := ⟨_, rfl⟩
      have hR3l : R2.data.toList.drop 1 = R3.data.toList := by rw [← hR3]; exact (extract1 R2).symm
      have hR3s : R3.size ≤ 9223372036854775807 := by rw [← hR3]; exact Nat.le_trans (extract1_size R2) hR2s
      have hR3n : R3.size = R2.size - 1 := by rw [Lib.size_eq, ← hR3l, List.length_drop, ← Lib.size_eq]
      obtain ⟨k, hk⟩ : ∃ k, digN R3.data.toList = k := ⟨_, rfl⟩
      have hk1 : k + 1 ≤ R2.size := by
        have := digN_le R3.data.toList
        rw [hk, ← Lib.size_eq] at this
        omega
      obtain ⟨Fr, hFr⟩ : ∃ Fr, R2.extract 1 (1 + k) = Fr := ⟨_, rfl⟩
      obtain ⟨E, hE⟩ : ∃ E, R2.extract (1 + k) R2.size = E := ⟨_, rfl⟩
      have hFl : R3.data.toList.take k = Fr.data.toList := by rw [← hFr, Lib.extract_data, hR3l, Nat.add_sub_cancel_left]
      have hEl0 : R2.data.toList.drop (k + 1) = E.data.toList := by rw [← hE, Lib.extract_data, Nat.add_comm 1 k, List.take_of_length_le (by rw [List.length_drop, Lib.size_eq]; omega)]
      have hFlen : Fr.size = k := by rw [Lib.size_eq, ← hFl, List.length_take, ← Lib.size_eq]; omega
      have hFs : Fr.size ≤ 9223372036854775807 := by omega
      have hEs : E.size ≤ 9223372036854775807 := by rw [Lib.size_eq, ← hEl0, List.length_drop, ← Lib.size_eq]; omega
      by_cases heFr : Fr.toList = []
      · have hk0 : k = 0 := by rw [← hFlen, Lib.size_eq, ba_nil heFr]; rfl
        have hN : partsN s.data.toList = none := by rw [hP1]; unfold partN; rw [hd, if_pos rfl, hR3l, hk, if_pos hk0]; rfl
        rw [hN]; exact rparts_fp1 s w hs hns hz h45 R hR hRs n hn hn1 Wh R2 hWh hR2 hWs hR2s hnWh h1 hnR2 hz2 h46 R3 hR3 hR3s k hk hk1 Fr E hFr hE hFs hEs heFr
      have hk0 : ¬ k = 0 := fun h => heFr (by rw [Lib.toList_data, ← hFl, h]; rfl)
      have hN : partsN s.data.toList = (tailN E.data.toList).map fun q => (false, Wh.data.toList, Fr.data.toList, q) := by rw [hP1]; unfold partN; rw [hd, if_pos rfl, hR3l, hk, if_neg hk0, hFl, hEl0]; rfl
      by_cases heE : E.toList = []
      · rw [hN, ba_nil heE]
        have k := rparts_dep1 s w hs hns hz h45 R hR hRs n hn hn1 Wh R2 hWh hR2 hWs hR2s hnWh h1 hnR2 hz2 h46 R3 hR3 hR3s k hk hk1 Fr E hFr hE hFs hEs heFr heE
        rw [← ba_of Wh, ← ba_of Fr] at k; exact k
      have hzE := ba_pos heE
      have hEl := ba_head hzE
      obtain ⟨F, hF⟩ : ∃ F, E.extract 1 E.size = F := ⟨_, rfl⟩
      have hFz : F.size ≤ 9223372036854775807 := by rw [← hF]; exact Nat.le_trans (extract1_size E) hEs
      rw [hF] at hEl
      by_cases g1 : ((E[0]'hzE).toNat : Int) = 101
      · have hT : tailN E.data.toList = if formP F.data.toList = true then some F.data.toList else none := by rw [hEl]; exact tail_e (.inl ((byte_is (k := 101) (by decide)).1 g1))
        by_cases heF : F.toList = []
        · have hf : formP F.data.toList = false := by rw [ba_nil heF]; rfl
          rw [hN, hT, hf]; exact rparts_x0edp1 s w hs hns hz h45 R hR hRs n hn hn1 Wh R2 hWh hR2 hWs hR2s hnWh h1 hnR2 hz2 h46 R3 hR3 hR3s k hk hk1 Fr E hFr hE hFs hEs heFr heE hzE g1 F hF hFz heF
        have hzF := ba_pos heF
        by_cases s1 : ((F[0]'hzF).toNat : Int) = 43
        · obtain ⟨G, hG⟩ : ∃ G, F.extract 1 F.size = G := ⟨_, rfl⟩
          have hG' : signed F.data.toList = G.data.toList := by rw [← hG]; exact signed_one hzF (.inl s1)
          have hGs : G.size ≤ 9223372036854775807 := by rw [← hG]; exact Nat.le_trans (extract1_size F) hFz
          obtain ⟨m, hmm⟩ : ∃ m, digN G.data.toList = m := ⟨_, rfl⟩
          by_cases heG : G.toList = []
          · have hf : formP F.data.toList = false := by rw [form_is hG', ba_nil heG]; rfl
            rw [hN, hT, hf]; exact rparts_xeaedp1 s w hs hns hz h45 R hR hRs n hn hn1 Wh R2 hWh hR2 hWs hR2s hnWh h1 hnR2 hz2 h46 R3 hR3 hR3s k hk hk1 Fr E hFr hE hFs hEs heFr heE hzE g1 F hF hFz heF hzF s1 G hG hGs m hmm heG
          have hgne : G.data.toList ≠ [] := (ba_nn heG)
          by_cases hb : m = G.size
          · have hf : formP F.data.toList = true := by rw [form_is hG', hmm, hb, Lib.size_eq]; simp [hgne]
            rw [hN, hT, hf]
            have k := rparts_kaedp1 s w hs hns hz h45 R hR hRs n hn hn1 Wh R2 hWh hR2 hWs hR2s hnWh h1 hnR2 hz2 h46 R3 hR3 hR3s k hk hk1 Fr E hFr hE hFs hEs heFr heE hzE g1 F hF hFz heF hzF s1 G hG hGs m hmm heG hb
            rw [← ba_of Wh, ← ba_of Fr, ← ba_of F] at k; exact k
          have hf : formP F.data.toList = false := by
            rw [form_is hG', hmm]
            have : ¬ m = G.data.toList.length := by rw [← Lib.size_eq]; exact hb
            rw [decide_eq_false this, Bool.and_false]
          rw [hN, hT, hf]; exact rparts_xbaedp1 s w hs hns hz h45 R hR hRs n hn hn1 Wh R2 hWh hR2 hWs hR2s hnWh h1 hnR2 hz2 h46 R3 hR3 hR3s k hk hk1 Fr E hFr hE hFs hEs heFr heE hzE g1 F hF hFz heF hzF s1 G hG hGs m hmm heG (by omega)
        by_cases s2 : ((F[0]'hzF).toNat : Int) = 45
        · obtain ⟨G, hG⟩ : ∃ G, F.extract 1 F.size = G := ⟨_, rfl⟩
          have hG' : signed F.data.toList = G.data.toList := by rw [← hG]; exact signed_one hzF (.inr s2)
          have hGs : G.size ≤ 9223372036854775807 := by rw [← hG]; exact Nat.le_trans (extract1_size F) hFz
          obtain ⟨m, hmm⟩ : ∃ m, digN G.data.toList = m := ⟨_, rfl⟩
          by_cases heG : G.toList = []
          · have hf : formP F.data.toList = false := by rw [form_is hG', ba_nil heG]; rfl
            rw [hN, hT, hf]; exact rparts_xebedp1 s w hs hns hz h45 R hR hRs n hn hn1 Wh R2 hWh hR2 hWs hR2s hnWh h1 hnR2 hz2 h46 R3 hR3 hR3s k hk hk1 Fr E hFr hE hFs hEs heFr heE hzE g1 F hF hFz heF hzF s1 s2 G hG hGs m hmm heG
          have hgne : G.data.toList ≠ [] := (ba_nn heG)
          by_cases hb : m = G.size
          · have hf : formP F.data.toList = true := by rw [form_is hG', hmm, hb, Lib.size_eq]; simp [hgne]
            rw [hN, hT, hf]
            have k := rparts_kbedp1 s w hs hns hz h45 R hR hRs n hn hn1 Wh R2 hWh hR2 hWs hR2s hnWh h1 hnR2 hz2 h46 R3 hR3 hR3s k hk hk1 Fr E hFr hE hFs hEs heFr heE hzE g1 F hF hFz heF hzF s1 s2 G hG hGs m hmm heG hb
            rw [← ba_of Wh, ← ba_of Fr, ← ba_of F] at k; exact k
          have hf : formP F.data.toList = false := by
            rw [form_is hG', hmm]
            have : ¬ m = G.data.toList.length := by rw [← Lib.size_eq]; exact hb
            rw [decide_eq_false this, Bool.and_false]
          rw [hN, hT, hf]; exact rparts_xbbedp1 s w hs hns hz h45 R hR hRs n hn hn1 Wh R2 hWh hR2 hWs hR2s hnWh h1 hnR2 hz2 h46 R3 hR3 hR3s k hk hk1 Fr E hFr hE hFs hEs heFr heE hzE g1 F hF hFz heF hzF s1 s2 G hG hGs m hmm heG (by omega)
        obtain ⟨G, hG⟩ : ∃ G, G = F := ⟨_, rfl⟩
        have hG' : signed F.data.toList = G.data.toList := by rw [hG]; exact signed_none hzF s1 s2
        have hGs : G.size ≤ 9223372036854775807 := by rw [hG]; exact hFz
        obtain ⟨m, hmm⟩ : ∃ m, digN G.data.toList = m := ⟨_, rfl⟩
        have hgne : G.data.toList ≠ [] := (by rw [hG]; exact ba_nn heF)
        by_cases hb : m = G.size
        · have hf : formP F.data.toList = true := by rw [form_is hG', hmm, hb, Lib.size_eq]; simp [hgne]
          rw [hN, hT, hf]
          have k := rparts_kuedp1 s w hs hns hz h45 R hR hRs n hn hn1 Wh R2 hWh hR2 hWs hR2s hnWh h1 hnR2 hz2 h46 R3 hR3 hR3s k hk hk1 Fr E hFr hE hFs hEs heFr heE hzE g1 F hF hFz heF hzF s1 s2 G hG hGs m hmm hb
          rw [← ba_of Wh, ← ba_of Fr, ← ba_of F] at k; exact k
        have hf : formP F.data.toList = false := by
          rw [form_is hG', hmm]
          have : ¬ m = G.data.toList.length := by rw [← Lib.size_eq]; exact hb
          rw [decide_eq_false this, Bool.and_false]
        rw [hN, hT, hf]; exact rparts_xbuedp1 s w hs hns hz h45 R hR hRs n hn hn1 Wh R2 hWh hR2 hWs hR2s hnWh h1 hnR2 hz2 h46 R3 hR3 hR3s k hk hk1 Fr E hFr hE hFs hEs heFr heE hzE g1 F hF hFz heF hzF s1 s2 G hG hGs m hmm (by omega)
      by_cases g2 : ((E[0]'hzE).toNat : Int) = 69
      · have hT : tailN E.data.toList = if formP F.data.toList = true then some F.data.toList else none := by rw [hEl]; exact tail_e (.inr ((byte_is (k := 69) (by decide)).1 g2))
        by_cases heF : F.toList = []
        · have hf : formP F.data.toList = false := by rw [ba_nil heF]; rfl
          rw [hN, hT, hf]; exact rparts_x0Edp1 s w hs hns hz h45 R hR hRs n hn hn1 Wh R2 hWh hR2 hWs hR2s hnWh h1 hnR2 hz2 h46 R3 hR3 hR3s k hk hk1 Fr E hFr hE hFs hEs heFr heE hzE g1 g2 F hF hFz heF
        have hzF := ba_pos heF
        by_cases s1 : ((F[0]'hzF).toNat : Int) = 43
        · obtain ⟨G, hG⟩ : ∃ G, F.extract 1 F.size = G := ⟨_, rfl⟩
          have hG' : signed F.data.toList = G.data.toList := by rw [← hG]; exact signed_one hzF (.inl s1)
          have hGs : G.size ≤ 9223372036854775807 := by rw [← hG]; exact Nat.le_trans (extract1_size F) hFz
          obtain ⟨m, hmm⟩ : ∃ m, digN G.data.toList = m := ⟨_, rfl⟩
          by_cases heG : G.toList = []
          · have hf : formP F.data.toList = false := by rw [form_is hG', ba_nil heG]; rfl
            rw [hN, hT, hf]; exact rparts_xeaEdp1 s w hs hns hz h45 R hR hRs n hn hn1 Wh R2 hWh hR2 hWs hR2s hnWh h1 hnR2 hz2 h46 R3 hR3 hR3s k hk hk1 Fr E hFr hE hFs hEs heFr heE hzE g1 g2 F hF hFz heF hzF s1 G hG hGs m hmm heG
          have hgne : G.data.toList ≠ [] := (ba_nn heG)
          by_cases hb : m = G.size
          · have hf : formP F.data.toList = true := by rw [form_is hG', hmm, hb, Lib.size_eq]; simp [hgne]
            rw [hN, hT, hf]
            have k := rparts_kaEdp1 s w hs hns hz h45 R hR hRs n hn hn1 Wh R2 hWh hR2 hWs hR2s hnWh h1 hnR2 hz2 h46 R3 hR3 hR3s k hk hk1 Fr E hFr hE hFs hEs heFr heE hzE g1 g2 F hF hFz heF hzF s1 G hG hGs m hmm heG hb
            rw [← ba_of Wh, ← ba_of Fr, ← ba_of F] at k; exact k
          have hf : formP F.data.toList = false := by
            rw [form_is hG', hmm]
            have : ¬ m = G.data.toList.length := by rw [← Lib.size_eq]; exact hb
            rw [decide_eq_false this, Bool.and_false]
          rw [hN, hT, hf]; exact rparts_xbaEdp1 s w hs hns hz h45 R hR hRs n hn hn1 Wh R2 hWh hR2 hWs hR2s hnWh h1 hnR2 hz2 h46 R3 hR3 hR3s k hk hk1 Fr E hFr hE hFs hEs heFr heE hzE g1 g2 F hF hFz heF hzF s1 G hG hGs m hmm heG (by omega)
        by_cases s2 : ((F[0]'hzF).toNat : Int) = 45
        · obtain ⟨G, hG⟩ : ∃ G, F.extract 1 F.size = G := ⟨_, rfl⟩
          have hG' : signed F.data.toList = G.data.toList := by rw [← hG]; exact signed_one hzF (.inr s2)
          have hGs : G.size ≤ 9223372036854775807 := by rw [← hG]; exact Nat.le_trans (extract1_size F) hFz
          obtain ⟨m, hmm⟩ : ∃ m, digN G.data.toList = m := ⟨_, rfl⟩
          by_cases heG : G.toList = []
          · have hf : formP F.data.toList = false := by rw [form_is hG', ba_nil heG]; rfl
            rw [hN, hT, hf]; exact rparts_xebEdp1 s w hs hns hz h45 R hR hRs n hn hn1 Wh R2 hWh hR2 hWs hR2s hnWh h1 hnR2 hz2 h46 R3 hR3 hR3s k hk hk1 Fr E hFr hE hFs hEs heFr heE hzE g1 g2 F hF hFz heF hzF s1 s2 G hG hGs m hmm heG
          have hgne : G.data.toList ≠ [] := (ba_nn heG)
          by_cases hb : m = G.size
          · have hf : formP F.data.toList = true := by rw [form_is hG', hmm, hb, Lib.size_eq]; simp [hgne]
            rw [hN, hT, hf]
            have k := rparts_kbEdp1 s w hs hns hz h45 R hR hRs n hn hn1 Wh R2 hWh hR2 hWs hR2s hnWh h1 hnR2 hz2 h46 R3 hR3 hR3s k hk hk1 Fr E hFr hE hFs hEs heFr heE hzE g1 g2 F hF hFz heF hzF s1 s2 G hG hGs m hmm heG hb
            rw [← ba_of Wh, ← ba_of Fr, ← ba_of F] at k; exact k
          have hf : formP F.data.toList = false := by
            rw [form_is hG', hmm]
            have : ¬ m = G.data.toList.length := by rw [← Lib.size_eq]; exact hb
            rw [decide_eq_false this, Bool.and_false]
          rw [hN, hT, hf]; exact rparts_xbbEdp1 s w hs hns hz h45 R hR hRs n hn hn1 Wh R2 hWh hR2 hWs hR2s hnWh h1 hnR2 hz2 h46 R3 hR3 hR3s k hk hk1 Fr E hFr hE hFs hEs heFr heE hzE g1 g2 F hF hFz heF hzF s1 s2 G hG hGs m hmm heG (by omega)
        obtain ⟨G, hG⟩ : ∃ G, G = F := ⟨_, rfl⟩
        have hG' : signed F.data.toList = G.data.toList := by rw [hG]; exact signed_none hzF s1 s2
        have hGs : G.size ≤ 9223372036854775807 := by rw [hG]; exact hFz
        obtain ⟨m, hmm⟩ : ∃ m, digN G.data.toList = m := ⟨_, rfl⟩
        have hgne : G.data.toList ≠ [] := (by rw [hG]; exact ba_nn heF)
        by_cases hb : m = G.size
        · have hf : formP F.data.toList = true := by rw [form_is hG', hmm, hb, Lib.size_eq]; simp [hgne]
          rw [hN, hT, hf]
          have k := rparts_kuEdp1 s w hs hns hz h45 R hR hRs n hn hn1 Wh R2 hWh hR2 hWs hR2s hnWh h1 hnR2 hz2 h46 R3 hR3 hR3s k hk hk1 Fr E hFr hE hFs hEs heFr heE hzE g1 g2 F hF hFz heF hzF s1 s2 G hG hGs m hmm hb
          rw [← ba_of Wh, ← ba_of Fr, ← ba_of F] at k; exact k
        have hf : formP F.data.toList = false := by
          rw [form_is hG', hmm]
          have : ¬ m = G.data.toList.length := by rw [← Lib.size_eq]; exact hb
          rw [decide_eq_false this, Bool.and_false]
        rw [hN, hT, hf]; exact rparts_xbuEdp1 s w hs hns hz h45 R hR hRs n hn hn1 Wh R2 hWh hR2 hWs hR2s hnWh h1 hnR2 hz2 h46 R3 hR3 hR3s k hk hk1 Fr E hFr hE hFs hEs heFr heE hzE g1 g2 F hF hFz heF hzF s1 s2 G hG hGs m hmm (by omega)
      have hT : tailN E.data.toList = none := by rw [hEl]; exact tail_no (fun h => g1 ((byte_is (k := 101) (by decide)).2 h)) (fun h => g2 ((byte_is (k := 69) (by decide)).2 h))
      rw [hN, hT]; exact rparts_odp1 s w hs hns hz h45 R hR hRs n hn hn1 Wh R2 hWh hR2 hWs hR2s hnWh h1 hnR2 hz2 h46 R3 hR3 hR3s k hk hk1 Fr E hFr hE hFs hEs heFr heE hzE g1 g2
    have hd : Lib.hasPrefix R2.data.toList [46] = false := by
      cases h : Lib.hasPrefix R2.data.toList [46]
      · rfl
      · exact absurd ((byte_is (k := 46) (by decide)).2 ((ba_head1 hz2 46).1 h).symm) h46
    obtain ⟨Fr, hFr⟩ : ∃ Fr : ByteArray, Fr = ⟨#[]⟩ := ⟨_, rfl⟩
    obtain ⟨E, hE⟩ : ∃ E, E = R2 := ⟨_, rfl⟩
    have heE : ¬ E.toList = [] := by rw [hE]; exact hnR2
    have hzE := ba_pos heE
    have hEs : E.size ≤ 9223372036854775807 := by rw [hE]; exact hR2s
    have hN : partsN s.data.toList = (tailN E.data.toList).map fun q => (false, Wh.data.toList, [], q) := by rw [hP1, hE]; unfold partN; rw [hd]; rfl
    have hEl := ba_head hzE
    obtain ⟨F, hF⟩ : ∃ F, E.extract 1 E.size = F := ⟨_, rfl⟩
    have hFz : F.size ≤ 9223372036854775807 := by rw [← hF]; exact Nat.le_trans (extract1_size E) hEs
    rw [hF] at hEl
    by_cases g1 : ((E[0]'hzE).toNat : Int) = 101
    · have hT : tailN E.data.toList = if formP F.data.toList = true then some F.data.toList else none := by rw [hEl]; exact tail_e (.inl ((byte_is (k := 101) (by decide)).1 g1))
      by_cases heF : F.toList = []
      · have hf : formP F.data.toList = false := by rw [ba_nil heF]; rfl
        rw [hN, hT, hf]; exact rparts_x0enp1 s w hs hns hz h45 R hR hRs n hn hn1 Wh R2 hWh hR2 hWs hR2s hnWh h1 hnR2 hz2 h46 Fr E hFr hE heE hzE g1 F hF hFz heF
      have hzF := ba_pos heF
      by_cases s1 : ((F[0]'hzF).toNat : Int) = 43
      · obtain ⟨G, hG⟩ : ∃ G, F.extract 1 F.size = G := ⟨_, rfl⟩
        have hG' : signed F.data.toList = G.data.toList := by rw [← hG]; exact signed_one hzF (.inl s1)
        have hGs : G.size ≤ 9223372036854775807 := by rw [← hG]; exact Nat.le_trans (extract1_size F) hFz
        obtain ⟨m, hmm⟩ : ∃ m, digN G.data.toList = m := ⟨_, rfl⟩
        by_cases heG : G.toList = []
        · have hf : formP F.data.toList = false := by rw [form_is hG', ba_nil heG]; rfl
          rw [hN, hT, hf]; exact rparts_xeaenp1 s w hs hns hz h45 R hR hRs n hn hn1 Wh R2 hWh hR2 hWs hR2s hnWh h1 hnR2 hz2 h46 Fr E hFr hE heE hzE g1 F hF hFz heF hzF s1 G hG hGs m hmm heG
        have hgne : G.data.toList ≠ [] := (ba_nn heG)
        by_cases hb : m = G.size
        · have hf : formP F.data.toList = true := by rw [form_is hG', hmm, hb, Lib.size_eq]; simp [hgne]
          rw [hN, hT, hf]
          have k := rparts_kaenp1 s w hs hns hz h45 R hR hRs n hn hn1 Wh R2 hWh hR2 hWs hR2s hnWh h1 hnR2 hz2 h46 Fr E hFr hE heE hzE g1 F hF hFz heF hzF s1 G hG hGs m hmm heG hb
          rw [← ba_of Wh, ← ba_of F] at k; exact k
        have hf : formP F.data.toList = false := by
          rw [form_is hG', hmm]
          have : ¬ m = G.data.toList.length := by rw [← Lib.size_eq]; exact hb
          rw [decide_eq_false this, Bool.and_false]
        rw [hN, hT, hf]; exact rparts_xbaenp1 s w hs hns hz h45 R hR hRs n hn hn1 Wh R2 hWh hR2 hWs hR2s hnWh h1 hnR2 hz2 h46 Fr E hFr hE heE hzE g1 F hF hFz heF hzF s1 G hG hGs m hmm heG (by omega)
      by_cases s2 : ((F[0]'hzF).toNat : Int) = 45
      · obtain ⟨G, hG⟩ : ∃ G, F.extract 1 F.size = G := ⟨_, rfl⟩
        have hG' : signed F.data.toList = G.data.toList := by rw [← hG]; exact signed_one hzF (.inr s2)
        have hGs : G.size ≤ 9223372036854775807 := by rw [← hG]; exact Nat.le_trans (extract1_size F) hFz
        obtain ⟨m, hmm⟩ : ∃ m, digN G.data.toList = m := ⟨_, rfl⟩
        by_cases heG : G.toList = []
        · have hf : formP F.data.toList = false := by rw [form_is hG', ba_nil heG]; rfl
          rw [hN, hT, hf]; exact rparts_xebenp1 s w hs hns hz h45 R hR hRs n hn hn1 Wh R2 hWh hR2 hWs hR2s hnWh h1 hnR2 hz2 h46 Fr E hFr hE heE hzE g1 F hF hFz heF hzF s1 s2 G hG hGs m hmm heG
        have hgne : G.data.toList ≠ [] := (ba_nn heG)
        by_cases hb : m = G.size
        · have hf : formP F.data.toList = true := by rw [form_is hG', hmm, hb, Lib.size_eq]; simp [hgne]
          rw [hN, hT, hf]
          have k := rparts_kbenp1 s w hs hns hz h45 R hR hRs n hn hn1 Wh R2 hWh hR2 hWs hR2s hnWh h1 hnR2 hz2 h46 Fr E hFr hE heE hzE g1 F hF hFz heF hzF s1 s2 G hG hGs m hmm heG hb
          rw [← ba_of Wh, ← ba_of F] at k; exact k
        have hf : formP F.data.toList = false := by
          rw [form_is hG', hmm]
          have : ¬ m = G.data.toList.length := by rw [← Lib.size_eq]; exact hb
          rw [decide_eq_false this, Bool.and_false]
        rw [hN, hT, hf]; exact rparts_xbbenp1 s w hs hns hz h45 R hR hRs n hn hn1 Wh R2 hWh hR2 hWs hR2s hnWh h1 hnR2 hz2 h46 Fr E hFr hE heE hzE g1 F hF hFz heF hzF s1 s2 G hG hGs m hmm heG (by omega)
      obtain ⟨G, hG⟩ : ∃ G, G = F := ⟨_, rfl⟩
      have hG' : signed F.data.toList = G.data.toList := by rw [hG]; exact signed_none hzF s1 s2
      have hGs : G.size ≤ 9223372036854775807 := by rw [hG]; exact hFz
      obtain ⟨m, hmm⟩ : ∃ m, digN G.data.toList = m := ⟨_, rfl⟩
      have hgne : G.data.toList ≠ [] := (by rw [hG]; exact ba_nn heF)
      by_cases hb : m = G.size
      · have hf : formP F.data.toList = true := by rw [form_is hG', hmm, hb, Lib.size_eq]; simp [hgne]
        rw [hN, hT, hf]
        have k := rparts_kuenp1 s w hs hns hz h45 R hR hRs n hn hn1 Wh R2 hWh hR2 hWs hR2s hnWh h1 hnR2 hz2 h46 Fr E hFr hE heE hzE g1 F hF hFz heF hzF s1 s2 G hG hGs m hmm hb
        rw [← ba_of Wh, ← ba_of F] at k; exact k
      have hf : formP F.data.toList = false := by
        rw [form_is hG', hmm]
        have : ¬ m = G.data.toList.length := by rw [← Lib.size_eq]; exact hb
        rw [decide_eq_false this, Bool.and_false]
      rw [hN, hT, hf]; exact rparts_xbuenp1 s w hs hns hz h45 R hR hRs n hn hn1 Wh R2 hWh hR2 hWs hR2s hnWh h1 hnR2 hz2 h46 Fr E hFr hE heE hzE g1 F hF hFz heF hzF s1 s2 G hG hGs m hmm (by omega)
    by_cases g2 : ((E[0]'hzE).toNat : Int) = 69
    · have hT : tailN E.data.toList = if formP F.data.toList = true then some F.data.toList else none := by rw [hEl]; exact tail_e (.inr ((byte_is (k := 69) (by decide)).1 g2))
      by_cases heF : F.toList = []
      · have hf : formP F.data.toList = false := by rw [ba_nil heF]; rfl
        rw [hN, hT, hf]; exact rparts_x0Enp1 s w hs hns hz h45 R hR hRs n hn hn1 Wh R2 hWh hR2 hWs hR2s hnWh h1 hnR2 hz2 h46 Fr E hFr hE heE hzE g1 g2 F hF hFz heF
      have hzF := ba_pos heF
      by_cases s1 : ((F[0]'hzF).toNat : Int) = 43
      · obtain ⟨G, hG⟩ : ∃ G, F.extract 1 F.size = G := ⟨_, rfl⟩
        have hG' : signed F.data.toList = G.data.toList := by rw [← hG]; exact signed_one hzF (.inl s1)
        have hGs : G.size ≤ 9223372036854775807 := by rw [← hG]; exact Nat.le_trans (extract1_size F) hFz
        obtain ⟨m, hmm⟩ : ∃ m, digN G.data.toList = m := ⟨_, rfl⟩
        by_cases heG : G.toList = []
        · have hf : formP F.data.toList = false := by rw [form_is hG', ba_nil heG]; rfl
          rw [hN, hT, hf]; exact rparts_xeaEnp1 s w hs hns hz h45 R hR hRs n hn hn1 Wh R2 hWh hR2 hWs hR2s hnWh h1 hnR2 hz2 h46 Fr E hFr hE heE hzE g1 g2 F hF hFz heF hzF s1 G hG hGs m hmm heG
        have hgne : G.data.toList ≠ [] := (ba_nn heG)
        by_cases hb : m = G.size
        · have hf : formP F.data.toList = true := by rw [form_is hG', hmm, hb, Lib.size_eq]; simp [hgne]
          rw [hN, hT, hf]
          have k := rparts_kaEnp1 s w hs hns hz h45 R hR hRs n hn hn1 Wh R2 hWh hR2 hWs hR2s hnWh h1 hnR2 hz2 h46 Fr E hFr hE heE hzE g1 g2 F hF hFz heF hzF s1 G hG hGs m hmm heG hb
          rw [← ba_of Wh, ← ba_of F] at k; exact k
        have hf : formP F.data.toList = false := by
          rw [form_is hG', hmm]
          have : ¬ m = G.data.toList.length := by rw [← Lib.size_eq]; exact hb
          rw [decide_eq_false this, Bool.and_false]
        rw [hN, hT, hf]; exact rparts_xbaEnp1 s w hs hns hz h45 R hR hRs n hn hn1 Wh R2 hWh hR2 hWs hR2s hnWh h1 hnR2 hz2 h46 Fr E hFr hE heE hzE g1 g2 F hF hFz heF hzF s1 G hG hGs m hmm heG (by omega)
      by_cases s2 : ((F[0]'hzF).toNat : Int) = 45
      · obtain ⟨G, hG⟩ : ∃ G, F.extract 1 F.size = G := ⟨_, rfl⟩
        have hG' : signed F.data.toList = G.data.toList := by rw [← hG]; exact signed_one hzF (.inr s2)
        have hGs : G.size ≤ 9223372036854775807 := by rw [← hG]; exact Nat.le_trans (extract1_size F) hFz
        obtain ⟨m, hmm⟩ : ∃ m, digN G.data.toList = m := ⟨_, rfl⟩
        by_cases heG : G.toList = []
        · have hf : formP F.data.toList = false := by rw [form_is hG', ba_nil heG]; rfl
          rw [hN, hT, hf]; exact rparts_xebEnp1 s w hs hns hz h45 R hR hRs n hn hn1 Wh R2 hWh hR2 hWs hR2s hnWh h1 hnR2 hz2 h46 Fr E hFr hE heE hzE g1 g2 F hF hFz heF hzF s1 s2 G hG hGs m hmm heG
        have hgne : G.data.toList ≠ [] := (ba_nn heG)
        by_cases hb : m = G.size
        · have hf : formP F.data.toList = true := by rw [form_is hG', hmm, hb, Lib.size_eq]; simp [hgne]
          rw [hN, hT, hf]
          have k := rparts_kbEnp1 s w hs hns hz h45 R hR hRs n hn hn1 Wh R2 hWh hR2 hWs hR2s hnWh h1 hnR2 hz2 h46 Fr E hFr hE heE hzE g1 g2 F hF hFz heF hzF s1 s2 G hG hGs m hmm heG hb
          rw [← ba_of Wh, ← ba_of F] at k; exact k
        have hf : formP F.data.toList = false := by
          rw [form_is hG', hmm]
          have : ¬ m = G.data.toList.length := by rw [← Lib.size_eq]; exact hb
          rw [decide_eq_false this, Bool.and_false]
        rw [hN, hT, hf]; exact rparts_xbbEnp1 s w hs hns hz h45 R hR hRs n hn hn1 Wh R2 hWh hR2 hWs hR2s hnWh h1 hnR2 hz2 h46 Fr E hFr hE heE hzE g1 g2 F hF hFz heF hzF s1 s2 G hG hGs m hmm heG (by omega)
      obtain ⟨G, hG⟩ : ∃ G, G = F := ⟨_, rfl⟩
      have hG' : signed F.data.toList = G.data.toList := by rw [hG]; exact signed_none hzF s1 s2
      have hGs : G.size ≤ 9223372036854775807 := by rw [hG]; exact hFz
      obtain ⟨m, hmm⟩ : ∃ m, digN G.data.toList = m := ⟨_, rfl⟩
      have hgne : G.data.toList ≠ [] := (by rw [hG]; exact ba_nn heF)
      by_cases hb : m = G.size
      · have hf : formP F.data.toList = true := by rw [form_is hG', hmm, hb, Lib.size_eq]; simp [hgne]
        rw [hN, hT, hf]
        have k := rparts_kuEnp1 s w hs hns hz h45 R hR hRs n hn hn1 Wh R2 hWh hR2 hWs hR2s hnWh h1 hnR2 hz2 h46 Fr E hFr hE heE hzE g1 g2 F hF hFz heF hzF s1 s2 G hG hGs m hmm hb
        rw [← ba_of Wh, ← ba_of F] at k; exact k
      have hf : formP F.data.toList = false := by
        rw [form_is hG', hmm]
        have : ¬ m = G.data.toList.length := by rw [← Lib.size_eq]; exact hb
        rw [decide_eq_false this, Bool.and_false]
      rw [hN, hT, hf]; exact rparts_xbuEnp1 s w hs hns hz h45 R hR hRs n hn hn1 Wh R2 hWh hR2 hWs hR2s hnWh h1 hnR2 hz2 h46 Fr E hFr hE heE hzE g1 g2 F hF hFz heF hzF s1 s2 G hG hGs m hmm (by omega)
    have hT : tailN E.data.toList = none := by rw [hEl]; exact tail_no (fun h => g1 ((byte_is (k := 101) (by decide)).2 h)) (fun h => g2 ((byte_is (k := 69) (by decide)).2 h))
    rw [hN, hT]; exact rparts_onp1 s w hs hns hz h45 R hR hRs n hn hn1 Wh R2 hWh hR2 hWs hR2s hnWh h1 hnR2 hz2 h46 Fr E hFr hE heE hzE g1 g2
  have h1 : 1 < (Wh.size : Int) := by omega
  by_cases h48 : ((Wh[0]'hzW).toNat : Int) = 48
  · rw [hP0, if_pos (.inr ⟨by omega, by rw [hhead, (byte_is (k := 48) (by decide)).1 h48]; rfl⟩)]
    exact rparts_leadp s w hs hns hz h45 R hR hRs n hn hn1 Wh R2 hWh hR2 hWs hR2s hnWh h1 hzW h48
  have hP1 := hP0
  rw [if_neg (by rintro (h | ⟨-, h⟩); exact h0 h; rw [hhead] at h; exact h48 ((byte_is (k := 48) (by decide)).2 (Option.some.inj h)))] at hP1
  by_cases heR2 : R2.toList = []
  · have hN : partsN s.data.toList = some (false, Wh.data.toList, [], []) := by rw [hP1, ba_nil heR2]; rfl
    rw [hN]
    have k := rparts_zp2 s w hs hns hz h45 R hR hRs n hn hn1 Wh R2 hWh hR2 hWs hR2s hnWh h1 hzW h48 heR2
    rw [← ba_of Wh] at k; exact k
  have hnR2 := heR2
  have hz2 := ba_pos hnR2
  by_cases h46 : ((R2[0]'hz2).toNat : Int) = 46
  · have hd : Lib.hasPrefix R2.data.toList [46] = true := (ba_head1 hz2 46).2 ((byte_is (k := 46) (by decide)).1 h46).symm
    obtain ⟨R3, hR3⟩ : ∃ R3, R2.extract 1 R2.size = R3 := ⟨_, rfl⟩
    have hR3l : R2.data.toList.drop 1 = R3.data.toList := by rw [← hR3]; exact (extract1 R2).symm
    have hR3s : R3.size ≤ 9223372036854775807 := by rw [← hR3]; exact Nat.le_trans (extract1_size R2) hR2s
    have hR3n : R3.size = R2.size - 1 := by rw [Lib.size_eq, ← hR3l, List.length_drop, ← Lib.size_eq]
    obtain ⟨k, hk⟩ : ∃ k, digN R3.data.toList = k := ⟨_, rfl⟩
    have hk1 : k + 1 ≤ R2.size := by
      have := digN_le R3.data.toList
      rw [hk, ← Lib.size_eq] at this
      omega
    obtain ⟨Fr, hFr⟩ : ∃ Fr, R2.extract 1 (1 + k) = Fr := ⟨_, rfl⟩
    obtain ⟨E, hE⟩ : ∃ E, R2.extract (1 + k) R2.size = E := ⟨_, rfl⟩
    have hFl : R3.data.toList.take k = Fr.data.toList := by rw [← hFr, Lib.extract_data, hR3l, Nat.add_sub_cancel_left]
    have hEl0 : R2.data.toList.drop (k + 1) = E.data.toList := by rw [← hE, Lib.extract_data, Nat.add_comm 1 k, List.take_of_length_le (by rw [List.length_drop, Lib.size_eq]; omega)]
    have hFlen : Fr.size = k := by rw [Lib.size_eq, ← hFl, List.length_take, ← Lib.size_eq]; omega
    have hFs : Fr.size ≤ 9223372036854775807 := by omega
    have hEs : E.size ≤ 9223372036854775807 := by rw [Lib.size_eq, ← hEl0, List.length_drop, ← Lib.size_eq]; omega
    by_cases heFr : Fr.toList = []
    · have hk0 : k = 0 := by rw [← hFlen, Lib.size_eq, ba_nil heFr]; rfl
      have hN : partsN s.data.toList = none := by rw [hP1]; unfold partN; rw [hd, if_pos rfl, hR3l, hk, if_pos hk0]; rfl
      rw [hN]; exact rparts_fp2 s w hs hns hz h45 R hR hRs n hn hn1 Wh R2 hWh hR2 hWs hR2s hnWh h1 hzW h48 hnR2 hz2 h46 R3 hR3 hR3s k hk hk1 Fr E hFr hE hFs hEs heFr
    have hk0 : ¬ k = 0 := fun h => heFr (by rw [Lib.toList_data, ← hFl, h]; rfl)
    have hN : partsN s.data.toList = (tailN E.data.toList).map fun q => (false, Wh.data.toList, Fr.data.toList, q) := by rw [hP1]; unfold partN; rw [hd, if_pos rfl, hR3l, hk, if_neg hk0, hFl, hEl0]; rfl
    by_cases heE : E.toList = []
    · rw [hN, ba_nil heE]
      have k := rparts_dep2 s w hs hns hz h45 R hR hRs n hn hn1 Wh R2 hWh hR2 hWs hR2s hnWh h1 hzW h48 hnR2 hz2 h46 R3 hR3 hR3s k hk hk1 Fr E hFr hE hFs hEs heFr heE
      rw [← ba_of Wh, ← ba_of Fr] at k; exact k
    have hzE := ba_pos heE
    have hEl := ba_head hzE
    obtain ⟨F, hF⟩ : ∃ F, E.extract 1 E.size = F := ⟨_, rfl⟩
    have hFz : F.size ≤ 9223372036854775807 := by rw [← hF]; exact Nat.le_trans (extract1_size E) hEs
    rw [hF] at hEl
    by_cases g1 : ((E[0]'hzE).toNat : Int) = 101
    · have hT : tailN E.data.toList = if formP F.data.toList = true then some F.data.toList else none := by rw [hEl]; exact tail_e (.inl ((byte_is (k := 101) (by decide)).1 g1))
      by_cases heF : F.toList = []
      · have hf : formP F.data.toList = false := by rw [ba_nil heF]; rfl
        rw [hN, hT, hf]; exact rparts_x0edp2 s w hs hns hz h45 R hR hRs n hn hn1 Wh R2 hWh hR2 hWs hR2s hnWh h1 hzW h48 hnR2 hz2 h46 R3 hR3 hR3s k hk hk1 Fr E hFr hE hFs hEs heFr heE hzE g1 F hF hFz heF
      have hzF := ba_pos heF
      by_cases s1 : ((F[0]'hzF).toNat : Int) = 43
      · obtain ⟨G, hG⟩ : ∃ G, F.extract 1 F.size = G := ⟨_, rfl⟩
        have hG' : signed F.data.toList = G.data.toList := by rw [← hG]; exact signed_one hzF (.inl s1)
        have hGs : G.size ≤ 9223372036854775807 := by rw [← hG]; exact Nat.le_trans (extract1_size F) hFz
        obtain ⟨m, hmm⟩ : ∃ m, digN G.data.toList = m := ⟨_, rfl⟩
        by_cases heG : G.toList = []
        · have hf : formP F.data.toList = false := by rw [form_is hG', ba_nil heG]; rfl
          rw [hN, hT, hf]; exact rparts_xeaedp2 s w hs hns hz h45 R hR hRs n hn hn1 Wh R2 hWh hR2 hWs hR2s hnWh h1 hzW h48 hnR2 hz2 h46 R3 hR3 hR3s k hk hk1 Fr E hFr hE hFs hEs heFr heE hzE g1 F hF hFz heF hzF s1 G hG hGs m hmm heG
        have hgne : G.data.toList ≠ [] := (ba_nn heG)
        by_cases hb : m = G.size
        · have hf : formP F.data.toList = true := by rw [form_is hG', hmm, hb, Lib.size_eq]; simp [hgne]
          rw [hN, hT, hf]
          have k := rparts_kaedp2 s w hs hns hz h45 R hR hRs n hn hn1 Wh R2 hWh hR2 hWs hR2s hnWh h1 hzW h48 hnR2 hz2 h46 R3 hR3 hR3s k hk hk1 Fr E hFr hE hFs hEs heFr heE hzE g1 F hF hFz heF hzF s1 G hG hGs m hmm heG hb
          rw [← ba_of Wh, ← ba_of Fr, ← ba_of F] at k; exact k
        have hf : formP F.data.toList = false := by
          rw [form_is hG', hmm]
          have : ¬ m = G.data.toList.length := by rw [← Lib.size_eq]; exact hb
          rw [decide_eq_false this, Bool.and_false]
        rw [hN, hT, hf]; exact rparts_xbaedp2 s w hs hns hz h45 R hR hRs n hn hn1 Wh R2 hWh hR2 hWs hR2s hnWh h1 hzW h48 hnR2 hz2 h46 R3 hR3 hR3s k hk hk1 Fr E hFr hE hFs hEs heFr heE hzE g1 F hF hFz heF hzF s1 G hG hGs m hmm heG (by omega)
      by_cases s2 : ((F[0]'hzF).toNat : Int) = 45
      · obtain ⟨G, hG⟩ : ∃ G, F.extract 1 F.size = G := ⟨_, rfl⟩
        have hG' : signed F.data.toList = G.data.toList := by rw [← hG]; exact signed_one hzF (.inr s2)
        have hGs : G.size ≤ 9223372036854775807 := by rw [← hG]; exact Nat.le_trans (extract1_size F) hFz
        obtain ⟨m, hmm⟩ : ∃ m, digN G.data.toList = m := ⟨_, rfl⟩
        by_cases heG : G.toList = []
        · have hf : formP F.data.toList = false := by rw [form_is hG', ba_nil heG]; rfl
          rw [hN, hT, hf]; exact rparts_xebedp2 s w hs hns hz h45 R hR hRs n hn hn1 Wh R2 hWh hR2 hWs hR2s hnWh h1 hzW h48 hnR2 hz2 h46 R3 hR3 hR3s k hk hk1 Fr E hFr hE hFs hEs heFr heE hzE g1 F hF hFz heF hzF s1 s2 G hG hGs m hmm heG
        have hgne : G.data.toList ≠ [] := (ba_nn heG)
        by_cases hb : m = G.size
        · have hf : formP F.data.toList = true := by rw [form_is hG', hmm, hb, Lib.size_eq]; simp [hgne]
          rw [hN, hT, hf]
          have k := rparts_kbedp2 s w hs hns hz h45 R hR hRs n hn hn1 Wh R2 hWh hR2 hWs hR2s hnWh h1 hzW h48 hnR2 hz2 h46 R3 hR3 hR3s k hk hk1 Fr E hFr hE hFs hEs heFr heE hzE g1 F hF hFz heF hzF s1 s2 G hG hGs m hmm heG hb
          rw [← ba_of Wh, ← ba_of Fr, ← ba_of F] at k; exact k
        have hf : formP F.data.toList = false := by
          rw [form_is hG', hmm]
          have : ¬ m = G.data.toList.length := by rw [← Lib.size_eq]; exact hb
          rw [decide_eq_false this, Bool.and_false]
        rw [hN, hT, hf]; exact rparts_xbbedp2 s w hs hns hz h45 R hR hRs n hn hn1 Wh R2 hWh hR2 hWs hR2s hnWh h1 hzW h48 hnR2 hz2 h46 R3 hR3 hR3s k hk hk1 Fr E hFr hE hFs hEs heFr heE hzE g1 F hF hFz heF hzF s1 s2 G hG hGs m hmm heG (by omega)
      obtain ⟨G, hG⟩ : ∃ G, G = F := ⟨_, rfl⟩
      have hG' : signed F.data.toList = G.data.toList := by rw [hG]; exact signed_none hzF s1 s2
      have hGs : G.size ≤ 9223372036854775807 := by rw [hG]; exact hFz
      obtain ⟨m, hmm⟩ : ∃ m, digN G.data.toList = m := ⟨_, rfl⟩
      have hgne : G.data.toList ≠ [] := (by rw [hG]; exact ba_nn heF)
      by_cases hb : m = G.size
      · have hf : formP F.data.toList = true := by rw [form_is hG', hmm, hb, Lib.size_eq]; simp [hgne]
        rw [hN, hT, hf]
        have k := rparts_kuedp2 s w hs hns hz h45 R hR hRs n hn hn1 Wh R2 hWh hR2 hWs hR2s hnWh h1 hzW h48 hnR2 hz2 h46 R3 hR3 hR3s k hk hk1 Fr E hFr hE hFs hEs heFr heE hzE g1 F hF hFz heF hzF s1 s2 G hG hGs m hmm hb
        rw [← ba_of Wh, ← ba_of Fr, ← ba_of F] at k; exact k
      have hf : formP F.data.toList = false := by
        rw [form_is hG', hmm]
        have : ¬ m = G.data.toList.length := by rw [← Lib.size_eq]; exact hb
        rw [decide_eq_false this, Bool.and_false]
      rw [hN, hT, hf]; exact rparts_xbuedp2 s w hs hns hz h45 R hR hRs n hn hn1 Wh R2 hWh hR2 hWs hR2s hnWh h1 hzW h48 hnR2 hz2 h46 R3 hR3 hR3s k hk hk1 Fr E hFr hE hFs hEs heFr heE hzE g1 F hF hFz heF hzF s1 s2 G hG hGs m hmm (by omega)
    by_cases g2 : ((E[0]'hzE).toNat : Int) = 69
    · have hT : tailN E.data.toList = if formP F.data.toList = true then some F.data.toList else none := by rw [hEl]; exact tail_e (.inr ((byte_is (k := 69) (by decide)).1 g2))
      by_cases heF : F.toList = []
      · have hf : formP F.data.toList = false := by rw [ba_nil heF]; rfl
        rw [hN, hT, hf]; exact rparts_x0Edp2 s w hs hns hz h45 R hR hRs n hn hn1 Wh R2 hWh hR2 hWs hR2s hnWh h1 hzW h48 hnR2 hz2 h46 R3 hR3 hR3s k hk hk1 Fr E hFr hE hFs hEs heFr heE hzE g1 g2 F hF hFz heF
      have hzF := ba_pos heF
      by_cases s1 : ((F[0]'hzF).toNat : Int) = 43
      · obtain ⟨G, hG⟩ : ∃ G, F.extract 1 F.size = G := ⟨_, rfl⟩
        have hG' : signed F.data.toList = G.data.toList := by rw [← hG]; exact signed_one hzF (.inl s1)
        have hGs : G.size ≤ 9223372036854775807 := by rw [← hG]; exact Nat.le_trans (extract1_size F) hFz
        obtain ⟨m, hmm⟩ : ∃ m, digN G.data.toList = m := ⟨_, rfl⟩
        by_cases heG : G.toList = []
        · have hf : formP F.data.toList = false := by rw [form_is hG', ba_nil heG]; rfl
          rw [hN, hT, hf]; exact rparts_xeaEdp2 s w hs hns hz h45 R hR hRs n hn hn1 Wh R2 hWh hR2 hWs hR2s hnWh h1 hzW h48 hnR2 hz2 h46 R3 hR3 hR3s k hk hk1 Fr E hFr hE hFs hEs heFr heE hzE g1 g2 F hF hFz heF hzF s1 G hG hGs m hmm heG
        have hgne : G.data.toList ≠ [] := (ba_nn heG)
        by_cases hb : m = G.size
        · have hf : formP F.data.toList = true := by rw [form_is hG', hmm, hb, Lib.size_eq]; simp [hgne]
          rw [hN, hT, hf]
          have k := rparts_kaEdp2 s w hs hns hz h45 R hR hRs n hn hn1 Wh R2 hWh hR2 hWs hR2s hnWh h1 hzW h48 hnR2 hz2 h46 R3 hR3 hR3s k hk hk1 Fr E hFr hE hFs hEs heFr heE hzE g1 g2 F hF hFz heF hzF s1 G hG hGs m hmm heG hb
          rw [← ba_of Wh, ← ba_of Fr, ← ba_of F] at k; exact k
        have hf : formP F.data.toList = false := by
          rw [form_is hG', hmm]
          have : ¬ m = G.data.toList.length := by rw [← Lib.size_eq]; exact hb
          rw [decide_eq_false this, Bool.and_false]
        rw [hN, hT, hf]; exact rparts_xbaEdp2 s w hs hns hz h45 R hR hRs n hn hn1 Wh R2 hWh hR2 hWs hR2s hnWh h1 hzW h48 hnR2 hz2 h46 R3 hR3 hR3s k hk hk1 Fr E hFr hE hFs hEs heFr heE hzE g1 g2 F hF hFz heF hzF s1 G hG hGs m hmm heG (by omega)
      by_cases s2 : ((F[0]'hzF).toNat : Int) = 45
      · obtain ⟨G, hG⟩ : ∃ G, F.extract 1 F.size = G := ⟨_, rfl⟩
        have hG' : signed F.data.toList = G.data.toList := by rw [← hG]; exact signed_one hzF (.inr s2)
        have hGs : G.size ≤ 9223372036854775807 := by rw [← hG]; exact Nat.le_trans (extract1_size F) hFz
        obtain ⟨m, hmm⟩ : ∃ m, digN G.data.toList = m := ⟨_, rfl⟩
        by_cases heG : G.toList = []
        · have hf : formP F.data.toList = false := by rw [form_is hG', ba_nil heG]; rfl
          rw [hN, hT, hf]; exact rparts_xebEdp2 s w hs hns hz h45 R hR hRs n hn hn1 Wh R2 hWh hR2 hWs hR2s hnWh h1 hzW h48 hnR2 hz2 h46 R3 hR3 hR3s k hk hk1 Fr E hFr hE hFs hEs heFr heE hzE g1 g2 F hF hFz heF hzF s1 s2 G hG hGs m hmm heG
        have hgne : G.data.toList ≠ [] := (ba_nn heG)
        by_cases hb : m = G.size
        · have hf : formP F.data.toList = true := by rw [form_is hG', hmm, hb, Lib.size_eq]; simp [hgne]
          rw [hN, hT, hf]
          have k := rparts_kbEdp2 s w hs hns hz h45 R hR hRs n hn hn1 Wh R2 hWh hR2 hWs hR2s hnWh h1 hzW h48 hnR2 hz2 h46 R3 hR3 hR3s k hk hk1 Fr E hFr hE hFs hEs heFr heE hzE g1 g2 F hF hFz heF hzF s1 s2 G hG hGs m hmm heG hb
          rw [← ba_of Wh, ← ba_of Fr, ← ba_of F] at k; exact k
        have hf : formP F.data.toList = false := by
          rw [form_is hG', hmm]
          have : ¬ m = G.data.toList.length := by rw [← Lib.size_eq]; exact hb
          rw [decide_eq_false this, Bool.and_false]
        rw [hN, hT, hf]; exact rparts_xbbEdp2 s w hs hns hz h45 R hR hRs n hn hn1 Wh R2 hWh hR2 hWs hR2s hnWh h1 hzW h48 hnR2 hz2 h46 R3 hR3 hR3s k hk hk1 Fr E hFr hE hFs hEs heFr heE hzE g1 g2 F hF hFz heF hzF s1 s2 G hG hGs m hmm heG (by omega)
      obtain ⟨G, hG⟩ : ∃ G, G = F := ⟨_, rfl⟩
      have hG' : signed F.data.toList = G.data.toList := by rw [hG]; exact signed_none hzF s1 s2
      have hGs : G.size ≤ 9223372036854775807 := by rw [hG]; exact hFz
      obtain ⟨m, hmm⟩ : ∃ m, digN G.data.toList = m := ⟨_, rfl⟩
      have hgne : G.data.toList ≠ [] := (by rw [hG]; exact ba_nn heF)
      by_cases hb : m = G.size
      · have hf : formP F.data.toList = true := by rw [form_is hG', hmm, hb, Lib.size_eq]; simp [hgne]
        rw [hN, hT, hf]
        have k := rparts_kuEdp2 s w hs hns hz h45 R hR hRs n hn hn1 Wh R2 hWh hR2 hWs hR2s hnWh h1 hzW h48 hnR2 hz2 h46 R3 hR3 hR3s k hk hk1 Fr E hFr hE hFs hEs heFr heE hzE g1 g2 F hF hFz heF hzF s1 s2 G hG hGs m hmm hb
        rw [← ba_of Wh, ← ba_of Fr, ← ba_of F] at k; exact k
      have hf : formP F.data.toList = false := by
        rw [form_is hG', hmm]
        have : ¬ m = G.data.toList.length := by rw [← Lib.size_eq]; exact hb
        rw [decide_eq_false this, Bool.and_false]
      rw [hN, hT, hf]; exact rparts_xbuEdp2 s w hs hns hz h45 R hR hRs n hn hn1 Wh R2 hWh hR2 hWs hR2s hnWh h1 hzW h48 hnR2 hz2 h46 R3 hR3 hR3s k hk hk1 Fr E hFr hE hFs hEs heFr heE hzE g1 g2 F hF hFz heF hzF s1 s2 G hG hGs m hmm (by omega)
    have hT : tailN E.data.toList = none := by rw [hEl]; exact tail_no (fun h => g1 ((byte_is (k := 101) (by decide)).2 h)) (fun h => g2 ((byte_is (k := 69) (by decide)).2 h))
    rw [hN, hT]; exact rparts_odp2 s w hs hns hz h45 R hR hRs n hn hn1 Wh R2 hWh hR2 hWs hR2s hnWh h1 hzW h48 hnR2 hz2 h46 R3 hR3 hR3s k hk hk1 Fr E hFr hE hFs hEs heFr heE hzE g1 g2
  have hd : Lib.hasPrefix R2.data.toList [46] = false := by
    cases h : Lib.hasPrefix R2.data.toList [46]
    · rfl
    · exact absurd ((byte_is (k := 46) (by decide)).2 ((ba_head1 hz2 46).1 h).symm) h46
  obtain ⟨Fr, hFr⟩ : ∃ Fr : ByteArray, Fr = ⟨#[]⟩ := ⟨_, rfl⟩
  obtain ⟨E, hE⟩ : ∃ E, E = R2 := ⟨_, rfl⟩
  have heE : ¬ E.toList = [] := by rw [hE]; exact hnR2
  have hzE := ba_pos heE
  have hEs : E.size ≤ 9223372036854775807 := by rw [hE]; exact hR2s
  have hN : partsN s.data.toList = (tailN E.data.toList).map fun q => (false, Wh.data.toList, [], q) := by rw [hP1, hE]; unfold partN; rw [hd]; rfl
  have hEl := ba_head hzE
  obtain ⟨F, hF⟩ : ∃ F, E.extract 1 E.size = F := ⟨_, rfl⟩
  have hFz : F.size ≤ 9223372036854775807 := by rw [← hF]; exact Nat.le_trans (extract1_size E) hEs
  rw [hF] at hEl
  by_cases g1 : ((E[0]'hzE).toNat : Int) = 101
  · have hT : tailN E.data.toList = if formP F.data.toList = true then some F.data.toList else none := by rw [hEl]; exact tail_e (.inl ((byte_is (k := 101) (by decide)).1 g1))
    by_cases heF : F.toList = []
    · have hf : formP F.data.toList = false := by rw [ba_nil heF]; rfl
      rw [hN, hT, hf]; exact rparts_x0enp2 s w hs hns hz h45 R hR hRs n hn hn1 Wh R2 hWh hR2 hWs hR2s hnWh h1 hzW h48 hnR2 hz2 h46 Fr E hFr hE heE hzE g1 F hF hFz heF
    have hzF := ba_pos heF
    by_cases s1 : ((F[0]'hzF).toNat : Int) = 43
    · obtain ⟨G, hG⟩ : ∃ G, F.extract 1 F.size = G := ⟨_, rfl⟩
      have hG' : signed F.data.toList = G.data.toList := by rw [← hG]; exact signed_one hzF (.inl s1)
      have hGs : G.size ≤ 9223372036854775807 := by rw [← hG]; exact Nat.le_trans (extract1_size F) hFz
      obtain ⟨m, hmm⟩ : ∃ m, digN G.data.toList = m := ⟨_, rfl⟩
      by_cases heG : G.toList = []
      · have hf : formP F.data.toList = false := by rw [form_is hG', ba_nil heG]; rfl
        rw [hN, hT, hf]; exact rparts_xeaenp2 s w hs hns hz h45 R hR hRs n hn hn1 Wh R2 hWh hR2 hWs hR2s hnWh h1 hzW h48 hnR2 hz2 h46 Fr E hFr hE heE hzE g1 F hF hFz heF hzF s1 G hG hGs m hmm heG
      have hgne : G.data.toList ≠ [] := (ba_nn heG)
      by_cases hb : m = G.size
      · have hf : formP F.data.toList = true := by rw [form_is hG', hmm, hb, Lib.size_eq]; simp [hgne]
        rw [hN, hT, hf]
        have k := rparts_kaenp2 s w hs hns hz h45 R hR hRs n hn hn1 Wh R2 hWh hR2 hWs hR2s hnWh h1 hzW h48 hnR2 hz2 h46 Fr E hFr hE heE hzE g1 F hF hFz heF hzF s1 G hG hGs m hmm heG hb
        rw [← ba_of Wh, ← ba_of F] at k; exact k
      have hf : formP F.data.toList = false := by
        rw [form_is hG', hmm]
        have : ¬ m = G.data.toList.length := by rw [← Lib.size_eq]; exact hb
        rw [decide_eq_false this, Bool.and_false]
      rw [hN, hT, hf]; exact rparts_xbaenp2 s w hs hns hz h45 R hR hRs n hn hn1 Wh R2 hWh hR2 hWs hR2s hnWh h1 hzW h48 hnR2 hz2 h46 Fr E hFr hE heE hzE g1 F hF hFz heF hzF s1 G hG hGs m hmm heG (by omega)
    by_cases s2 : ((F[0]'hzF).toNat : Int) = 45
    · obtain ⟨G, hG⟩ : ∃ G, F.extract 1 F.size = G := ⟨_, rfl⟩
      have hG' : signed F.data.toList = G.data.toList := by rw [← hG]; exact signed_one hzF (.inr s2)
      have hGs : G.size ≤ 9223372036854775807 := by rw [← hG]; exact Nat.le_trans (extract1_size F) hFz
      obtain ⟨m, hmm⟩ : ∃ m, digN G.data.toList = m := ⟨_, rfl⟩
      by_cases heG : G.toList = []
      · have hf : formP F.data.toList = false := by rw [form_is hG', ba_nil heG]; rfl
        rw [hN, hT, hf]; exact rparts_xebenp2 s w hs hns hz h45 R hR hRs n hn hn1 Wh R2 hWh hR2 hWs hR2s hnWh h1 hzW h48 hnR2 hz2 h46 Fr E hFr hE heE hzE g1 F hF hFz heF hzF s1 s2 G hG hGs m hmm heG
      have hgne : G.data.toList ≠ [] := (ba_nn heG)
      by_cases hb : m = G.size
      · have hf : formP F.data.toList = true := by rw [form_is hG', hmm, hb, Lib.size_eq]; simp [hgne]
        rw [hN, hT, hf]
        have k := rparts_kbenp2 s w hs hns hz h45 R hR hRs n hn hn1 Wh R2 hWh hR2 hWs hR2s hnWh h1 hzW h48 hnR2 hz2 h46 Fr E hFr hE heE hzE g1 F hF hFz heF hzF s1 s2 G hG hGs m hmm heG hb
        rw [← ba_of Wh, ← ba_of F] at k; exact k
      have hf : formP F.data.toList = false := by
        rw [form_is hG', hmm]
        have : ¬ m = G.data.toList.length := by rw [← Lib.size_eq]; exact hb
        rw [decide_eq_false this, Bool.and_false]
      rw [hN, hT, hf]; exact rparts_xbbenp2 s w hs hns hz h45 R hR hRs n hn hn1 Wh R2 hWh hR2 hWs hR2s hnWh h1 hzW h48 hnR2 hz2 h46 Fr E hFr hE heE hzE g1 F hF hFz heF hzF s1 s2 G hG hGs m hmm heG (by omega)
    obtain ⟨G, hG⟩ : ∃ G, G = F := ⟨_, rfl⟩
    have hG' : signed F.data.toList = G.data.toList := by rw [hG]; exact signed_none hzF s1 s2
    have hGs : G.size ≤ 9223372036854775807 := by rw [hG]; exact hFz
    obtain ⟨m, hmm⟩ : ∃ m, digN G.data.toList = m := ⟨_, rfl⟩
    have hgne : G.data.toList ≠ [] := (by rw [hG]; exact ba_nn heF)
    by_cases hb : m = G.size
    · have hf : formP F.data.toList = true := by rw [form_is hG', hmm, hb, Lib.size_eq]; simp [hgne]
      rw [hN, hT, hf]
      have k := rparts_kuenp2 s w hs hns hz h45 R hR hRs n hn hn1 Wh R2 hWh hR2 hWs hR2s hnWh h1 hzW h48 hnR2 hz2 h46 Fr E hFr hE heE hzE g1 F hF hFz heF hzF s1 s2 G hG hGs m hmm hb
      rw [← ba_of Wh, ← ba_of F] at k; exact k
    have hf : formP F.data.toList = false := by
      rw [form_is hG', hmm]
      have : ¬ m = G.data.toList.length := by rw [← Lib.size_eq]; exact hb
      rw [decide_eq_false this, Bool.and_false]
    rw [hN, hT, hf]; exact rparts_xbuenp2 s w hs hns hz h45 R hR hRs n hn hn1 Wh R2 hWh hR2 hWs hR2s hnWh h1 hzW h48 hnR2 hz2 h46 Fr E hFr hE heE hzE g1 F hF hFz heF hzF s1 s2 G hG hGs m hmm (by omega)
  by_cases g2 : ((E[0]'hzE).toNat : Int) = 69
  · have hT : tailN E.data.toList = if formP F.data.toList = true then some F.data.toList else none := by rw [hEl]; exact tail_e (.inr ((byte_is (k := 69) (by decide)).1 g2))
    by_cases heF : F.toList = []
    · have hf : formP F.data.toList = false := by rw [ba_nil heF]; rfl
      rw [hN, hT, hf]; exact rparts_x0Enp2 s w hs hns hz h45 R hR hRs n hn hn1 Wh R2 hWh hR2 hWs hR2s hnWh h1 hzW h48 hnR2 hz2 h46 Fr E hFr hE heE hzE g1 g2 F hF hFz heF
    have hzF := ba_pos heF
    by_cases s1 : ((F[0]'hzF).toNat : Int) = 43
    · obtain ⟨G, hG⟩ : ∃ G, F.extract 1 F.size = G := ⟨_, rfl⟩
      have hG' : signed F.data.toList = G.data.toList := by rw [← hG]; exact signed_one hzF (.inl s1)
      have hGs : G.size ≤ 9223372036854775807 := by rw [← hG]; exact Nat.le_trans (extract1_size F) hFz
      obtain ⟨m, hmm⟩ : ∃ m, digN G.data.toList = m := ⟨_, rfl⟩
      by_cases heG : G.toList = []
      · have hf : formP F.data.toList = false := by rw [form_is hG', ba_nil heG]; rfl
        rw [hN, hT, hf]; exact rparts_xeaEnp2 s w hs hns hz h45 R hR hRs n hn hn1 Wh R2 hWh hR2 hWs hR2s hnWh h1 hzW h48 hnR2 hz2 h46 Fr E hFr hE heE hzE g1 g2 F hF hFz heF hzF s1 G hG hGs m hmm heG
      have hgne : G.data.toList ≠ [] := (ba_nn heG)
      by_cases hb : m = G.size
      · have hf : formP F.data.toList = true := by rw [form_is hG', hmm, hb, Lib.size_eq]; simp [hgne]
        rw [hN, hT, hf]
        have k := rparts_kaEnp2 s w hs hns hz h45 R hR hRs n hn hn1 Wh R2 hWh hR2 hWs hR2s hnWh h1 hzW h48 hnR2 hz2 h46 Fr E hFr hE heE hzE g1 g2 F hF hFz heF hzF s1 G hG hGs m hmm heG hb
        rw [← ba_of Wh, ← ba_of F] at k; exact k
      have hf : formP F.data.toList = false := by
        rw [form_is hG', hmm]
        have : ¬ m = G.data.toList.length := by rw [← Lib.size_eq]; exact hb
        rw [decide_eq_false this, Bool.and_false]
      rw [hN, hT, hf]; exact rparts_xbaEnp2 s w hs hns hz h45 R hR hRs n hn hn1 Wh R2 hWh hR2 hWs hR2s hnWh h1 hzW h48 hnR2 hz2 h46 Fr E hFr hE heE hzE g1 g2 F hF hFz heF hzF s1 G hG hGs m hmm heG (by omega)
    by_cases s2 : ((F[0]'hzF).toNat : Int) = 45
    · obtain ⟨G, hG⟩ : ∃ G, F.extract 1 F.size = G := ⟨_, rfl⟩
      have hG' : signed F.data.toList = G.data.toList := by rw [← hG]; exact signed_one hzF (.inr s2)
      have hGs : G.size ≤ 9223372036854775807 := by rw [← hG]; exact Nat.le_trans (extract1_size F) hFz
      obtain ⟨m, hmm⟩ : ∃ m, digN G.data.toList = m := ⟨_, rfl⟩
      by_cases heG : G.toList = []
      · have hf : formP F.data.toList = false := by rw [form_is hG', ba_nil heG]; rfl
        rw [hN, hT, hf]; exact rparts_xebEnp2 s w hs hns hz h45 R hR hRs n hn hn1 Wh R2 hWh hR2 hWs hR2s hnWh h1 hzW h48 hnR2 hz2 h46 Fr E hFr hE heE hzE g1 g2 F hF hFz heF hzF s1 s2 G hG hGs m hmm heG
      have hgne : G.data.toList ≠ [] := (ba_nn heG)
      by_cases hb : m = G.size
      · have hf : formP F.data.toList = true := by rw [form_is hG', hmm, hb, Lib.size_eq]; simp [hgne]
        rw [hN, hT, hf]
        have k := rparts_kbEnp2 s w hs hns hz h45 R hR hRs n hn hn1 Wh R2 hWh hR2 hWs hR2s hnWh h1 hzW h48 hnR2 hz2 h46 Fr E hFr hE heE hzE g1 g2 F hF hFz heF hzF s1 s2 G hG hGs m hmm heG hb
        rw [← ba_of Wh, ← ba_of F] at k; exact k
      have hf : formP F.data.toList = false := by
        rw [form_is hG', hmm]
        have : ¬ m = G.data.toList.length := by rw [← Lib.size_eq]; exact hb
        rw [decide_eq_false this, Bool.and_false]
      rw [hN, hT, hf]; exact rparts_xbbEnp2 s w hs hns hz h45 R hR hRs n hn hn1 Wh R2 hWh hR2 hWs hR2s hnWh h1 hzW h48 hnR2 hz2 h46 Fr E hFr hE heE hzE g1 g2 F hF hFz heF hzF s1 s2 G hG hGs m hmm heG (by omega)
    obtain ⟨G, hG⟩ : ∃ G, G = F := ⟨_, rfl⟩
    have hG' : signed F.data.toList = G.data.toList := by rw [hG]; exact signed_none hzF s1 s2
    have hGs : G.size ≤ 9223372036854775807 := by rw [hG]; exact hFz
    obtain ⟨m, hmm⟩ : ∃ m, digN G.data.toList = m := ⟨_, rfl⟩
    have hgne : G.data.toList ≠ [] := (by rw [hG]; exact ba_nn heF)
    by_cases hb : m = G.size
    · have hf : formP F.data.toList = true := by rw [form_is hG', hmm, hb, Lib.size_eq]; simp [hgne]
      rw [hN, hT, hf]
      have k := rparts_kuEnp2 s w hs hns hz h45 R hR hRs n hn hn1 Wh R2 hWh hR2 hWs hR2s hnWh h1 hzW h48 hnR2 hz2 h46 Fr E hFr hE heE hzE g1 g2 F hF hFz heF hzF s1 s2 G hG hGs m hmm hb
      rw [← ba_of Wh, ← ba_of F] at k; exact k
    have hf : formP F.data.toList = false := by
      rw [form_is hG', hmm]
      have : ¬ m = G.data.toList.length := by rw [← Lib.size_eq]; exact hb
      rw [decide_eq_false this, Bool.and_false]
    rw [hN, hT, hf]; exact rparts_xbuEnp2 s w hs hns hz h45 R hR hRs n hn hn1 Wh R2 hWh hR2 hWs hR2s hnWh h1 hzW h48 hnR2 hz2 h46 Fr E hFr hE heE hzE g1 g2 F hF hFz heF hzF s1 s2 G hG hGs m hmm (by omega)
  have hT : tailN E.data.toList = none := by rw [hEl]; exact tail_no (fun h => g1 ((byte_is (k := 101) (by decide)).2 h)) (fun h => g2 ((byte_is (k := 69) (by decide)).2 h))
  rw [hN, hT]; exact rparts_onp2 s w hs hns hz h45 R hR hRs n hn hn1 Wh R2 hWh hR2 hWs hR2s hnWh h1 hzW h48 hnR2 hz2 h46 Fr E hFr hE heE hzE g1 g2
end Go.Proofs.YtcpmehppfccihaaGreatDoor
