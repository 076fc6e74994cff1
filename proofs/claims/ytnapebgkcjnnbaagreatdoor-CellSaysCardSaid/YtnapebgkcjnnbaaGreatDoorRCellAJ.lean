/-
  The reference's Cell, for all texts. No condition.
-/
import Derived.Test.YtnapebgkcjnnbaaGreatDoorRCellJ
namespace Go.Proofs.YtnapebgkcjnnbaaGreatDoor
open Go.RowKit
set_option linter.unusedVariables false
set_option linter.unusedSimpArgs false
theorem unq_yes {s : ByteArray} (h : s.data.toList.head? = some 39) : unq s = s.extract 1 s.size := by
  unfold unq Lib.trimPrefix Lib.hasPrefix
  refine ba_ext ?_
  cases hl : s.data.toList with
  | nil => rw [hl] at h; cases h
  | cons c l =>
    rw [hl] at h
    simp at h
    rw [Lib.extract_data, Lib.size_eq, hl, h]
    simp
theorem unq_no {s : ByteArray} (h : ¬ s.data.toList.head? = some 39) : unq s = s := by
  unfold unq Lib.trimPrefix Lib.hasPrefix
  refine ba_ext ?_
  cases hl : s.data.toList with
  | nil => rfl
  | cons c l =>
    rw [hl] at h
    simp at h
    have h2 : ([39] : List UInt8).isPrefixOf (c :: l) = false := by simp [List.isPrefixOf]; exact Ne.symm h
    rw [h2]; rfl
theorem strR_rv {R : ByteArray} (hv : 0 ≤ rV (validS R)) : strR R = (.no, 3) := by
  have h : ¬ (validS R).2 = true := fun h => by have := (rV_neg R).2 h; omega
  unfold strR letC
  rw [if_neg h]; rfl
theorem strR_long {R : ByteArray} (hv : ¬ 0 ≤ rV (validS R)) (hl : 4096 < (R.size : Int)) : strR R = (.no, 2) := by
  have h : (validS R).2 = true := (rV_neg R).1 (by omega)
  unfold strR letC
  have hn : 4096 < R.size := by omega
  simp [h, hn]
theorem strR_ok {R : ByteArray} (hv : ¬ 0 ≤ rV (validS R)) (hl : ¬ 4096 < (R.size : Int)) : strR R = (VT.leaf 4 0 R, 0) := by
  have h : (validS R).2 = true := (rV_neg R).1 (by omega)
  unfold strR letC
  have hn : ¬ 4096 < R.size := by omega
  simp [h, hn]
theorem rcell_any (s : ByteArray) (w : World) (hs : s.size ≤ 9223372036854775807) : Calls Tryz.prog 10 #[.string s] w fun e w' => e = .returned (.tuple #[.agg (cellV s).1.c, .int .i64 (cellV s).2]) ∧ Below w.heap.size w w' := by
  have hx : ∀ {r : VT × Int}, cellV s = r → (Calls Tryz.prog 10 #[.string s] w fun e w' => e = .returned (.tuple #[.agg r.1.c, .int .i64 r.2]) ∧ Below w.heap.size w w') → Calls Tryz.prog 10 #[.string s] w fun e w' => e = .returned (.tuple #[.agg (cellV s).1.c, .int .i64 (cellV s).2]) ∧ Below w.heap.size w w' := fun h k => by rw [h]; exact k
  by_cases h0 : s.toList = []
  · exact hx (by unfold cellV; rw [if_pos (ba_toList.1 h0)]) (rc_0 s w h0)
  have g0 : ¬ s.data.toList = [] := fun h => h0 (ba_toList.2 h)
  by_cases h1 : s.toList = [110, 117, 108, 108]
  · exact hx (by unfold cellV; rw [if_neg g0, if_pos (ba_toList.1 h1)]) (rc_1 s w h1)
  have g1 : ¬ s.data.toList = [110, 117, 108, 108] := fun h => h1 (ba_toList.2 h)
  by_cases h2 : s.toList = [116, 114, 117, 101]
  · exact hx (by unfold cellV; rw [if_neg g0, if_neg g1, if_pos (ba_toList.1 h2)]) (rc_2 s w h2)
  have g2 : ¬ s.data.toList = [116, 114, 117, 101] := fun h => h2 (ba_toList.2 h)
  by_cases h3 : s.toList = [102, 97, 108, 115, 101]
  · exact hx (by unfold cellV; rw [if_neg g0, if_neg g1, if_neg g2, if_pos (ba_toList.1 h3)]) (rc_3 s w h3)
  have g3 : ¬ s.data.toList = [102, 97, 108, 115, 101] := fun h => h3 (ba_toList.2 h)
  by_cases h4 : s.toList = [91, 93]
  · exact hx (by unfold cellV; rw [if_neg g0, if_neg g1, if_neg g2, if_neg g3, if_pos (ba_toList.1 h4)]) (rc_4 s w h4)
  have g4 : ¬ s.data.toList = [91, 93] := fun h => h4 (ba_toList.2 h)
  by_cases h5 : s.toList = [123, 125]
  · exact hx (by unfold cellV; rw [if_neg g0, if_neg g1, if_neg g2, if_neg g3, if_neg g4, if_pos (ba_toList.1 h5)]) (rc_5 s w h5)
  have g5 : ¬ s.data.toList = [123, 125] := fun h => h5 (ba_toList.2 h)
  cases hg : goodN s.data.toList
  case true => exact hx (by unfold cellV; rw [if_neg g0, if_neg g1, if_neg g2, if_neg g3, if_neg g4, if_neg g5, if_pos hg]) (rc_n s w hs h0 h1 h2 h3 h4 h5 hg)
  have hz : 0 < s.size := ba_pos h0
  have ng : ¬ goodN s.data.toList = true := by rw [hg]; simp
  by_cases h64 : ((s[0]'hz).toNat : Int) = 64
  · have hd : s.data.toList.head? = some 64 := (head_is hz 64 (by decide)).2 h64
    have hR : (s.extract 1 s.size).size ≤ 9223372036854775807 := by simp; omega
    cases hb : stampB (s.extract 1 s.size)
    · exact hx (r := (.no, 4)) (by unfold cellV; rw [if_neg g0, if_neg g1, if_neg g2, if_neg g3, if_neg g4, if_neg g5, if_neg ng, if_pos hd]; unfold stampR; rw [hb]; rfl) (rc_t s w hs h0 h1 h2 h3 h4 h5 hg hz h64 _ rfl hR hb)
    · exact hx (r := (VT.leaf 7 0 (s.extract 1 s.size), 0)) (by unfold cellV; rw [if_neg g0, if_neg g1, if_neg g2, if_neg g3, if_neg g4, if_neg g5, if_neg ng, if_pos hd]; unfold stampR; rw [hb]; rfl) (rc_s s w hs h0 h1 h2 h3 h4 h5 hg hz h64 _ rfl hR hb)
  · have hd : ¬ s.data.toList.head? = some 64 := fun h => h64 ((head_is hz 64 (by decide)).1 h)
    have e0 : cellV s = strR (unq s) := by unfold cellV; rw [if_neg g0, if_neg g1, if_neg g2, if_neg g3, if_neg g4, if_neg g5, if_neg ng, if_neg hd]
    by_cases h39 : ((s[0]'hz).toNat : Int) = 39
    · have hu : unq s = s.extract 1 s.size := unq_yes ((head_is hz 39 (by decide)).2 h39)
      have hR : (s.extract 1 s.size).size ≤ 9223372036854775807 := by simp; omega
      rw [hu] at e0
      by_cases hv : 0 ≤ rV (validS (s.extract 1 s.size))
      · exact hx (e0.trans (strR_rv hv)) (rc_a3 s w hs h0 h1 h2 h3 h4 h5 hg hz h64 h39 _ rfl hR hv)
      by_cases hl : 4096 < ((s.extract 1 s.size).size : Int)
      · exact hx (e0.trans (strR_long hv hl)) (rc_a2 s w hs h0 h1 h2 h3 h4 h5 hg hz h64 h39 _ rfl hR hv hl)
      · exact hx (e0.trans (strR_ok hv hl)) (rc_a0 s w hs h0 h1 h2 h3 h4 h5 hg hz h64 h39 _ rfl hR hv hl)
    · have hu : unq s = s := unq_no (fun h => h39 ((head_is hz 39 (by decide)).1 h))
      rw [hu] at e0
      by_cases hv : 0 ≤ rV (validS s)
      · exact hx (e0.trans (strR_rv hv)) (rc_b3 s w hs h0 h1 h2 h3 h4 h5 hg hz h64 h39 _ rfl hs hv)
      by_cases hl : 4096 < (s.size : Int)
      · exact hx (e0.trans (strR_long hv hl)) (rc_b2 s w hs h0 h1 h2 h3 h4 h5 hg hz h64 h39 _ rfl hs hv hl)
      · exact hx (e0.trans (strR_ok hv hl)) (rc_b0 s w hs h0 h1 h2 h3 h4 h5 hg hz h64 h39 _ rfl hs hv hl)
end Go.Proofs.YtnapebgkcjnnbaaGreatDoor
