/-
  A row of strings that came in, opened. No condition.
-/
import Derived.Test.YtcpmehppfccihaaGreatDoorMakesWJ
import Derived.SliceStrings
namespace Go.Proofs.YtcpmehppfccihaaGreatDoor
open Go.RowKit
set_option linter.unusedVariables false
theorem keys_of {W : World} {a : Addr} {len cap : Nat} {ss : List ByteArray} (hl : len ≤ cap) (hss : ss.length = cap) (hc : ∀ i, i < ss.length → W.cell? (a.add i) = some (.string (ss.getD i ByteArray.empty))) (hz : ∀ s ∈ ss, s.size ≤ maxLen) : ∃ (kb ko : Nat) (K : List ByteArray), K.length = len ∧ KIn W.heap.size W (some a) kb ko K := by
  have hlen : (ss.take len).length = len := by rw [List.length_take]; omega
  have hsz : AllSz (ss.take len) := allSz_iff.2 fun k hk => Nat.le_trans (hz k (List.mem_of_mem_take hk)) (by decide)
  by_cases h0 : len = 0
  · refine ⟨0, 0, ss.take len, hlen, ⟨fun h => by omega, fun i hi => by omega, hsz⟩⟩
  have hc0 := hc 0 (by omega)
  have e0 : a.add 0 = a := by simp [Addr.add]
  rw [e0] at hc0
  have hspot : a.spot = none := by
    unfold World.cell? at hc0
    split at hc0
    · split at hc0
      · cases hc0
      · rename_i hs; cases h : a.spot <;> simp_all
    · cases hc0
  have hblk := World.block_lt_of_cell? W a hc0
  obtain ⟨b, o, s⟩ := a
  simp only at hspot hblk
  subst hspot
  refine ⟨b, o, ss.take len, hlen, ⟨fun _ => ⟨rfl, hblk⟩, fun i hi => ?_, hsz⟩⟩
  rw [hlen] at hi
  have h := hc i (by omega)
  have e : kAt (ss.take len) i = ss.getD i ByteArray.empty := by
    unfold kAt
    rw [List.getD_eq_getElem?_getD, List.getD_eq_getElem?_getD, List.getElem?_take_of_lt hi, List.getElem?_eq_getElem (by omega : i < ss.length)]
    rfl
  rw [e]
  rw [show (⟨b, o, none⟩ : Addr).add i = ⟨b, o + i, none⟩ from by simp only [Addr.add]; split <;> simp_all] at h
  exact h
theorem valueMakes_card (s : ByteArray) (A : Option Addr) (kb ko c : Nat) (K : List ByteArray) (n : Int) (w : World) (hw : Vars w) (hs : s.size ≤ 140737488351232) (hK : KIn w.heap.size w A kb ko K) (wn : (Lit.int .i64 n).wf = true) : Calls Tryz.prog 4 #[.string s, .slice A K.length c, .int .i64 n] w fun e w' => e = .returned (.bool true) ∧ Below w.heap.size w w' :=
  valueMakes_walk s A kb ko c K n w hw hs hK (by have h := wn; simp [Lit.wf, IntKind.min, IntKind.max, IntKind.bits, IntKind.signed] at h; omega)
end Go.Proofs.YtcpmehppfccihaaGreatDoor
