/-
  value.stamp tells what is written here, for all texts. No condition beside their length.
-/
import Derived.Test.YteplcnpmdjdlkaaGreatDoorTreeJ
import Derived.Lib.ConvBytes
import Derived.Lib.SmallJoins
namespace Go.Proofs.YteplcnpmdjdlkaaGreatDoor
open Go.RowKit
set_option linter.unusedVariables false
set_option linter.unusedSimpArgs false
def oddB (c : UInt8) : Bool := decide (c.toNat < 32) || decide (126 < c.toNat)
def oddL (l : List UInt8) : Bool := l.any oddB
def stampB (s : ByteArray) : Bool := decide (1 ≤ s.size) && decide (s.size ≤ 64) && !(oddL s.data.toList)
theorem odd_any (c : UInt8) (w : World) : Calls Tryz.prog 106 #[.int .u8 (c.toNat : Int)] w fun e w' => e = .returned (.bool (oddB c)) ∧ w' = w := by
  have hc := c.toNat_lt
  by_cases h : c.toNat < 32
  · have hh : Hid (oddB c = true) := by unfold Hid oddB; simp [h]
    have h1 : decide ((c.toNat : Int) < 32) = true := by simp; omega
    go_enter Tryz.func106, Tryz.ntmps106
    go_wp2
    go_ret
    exact ⟨ret_bool hh.out.symm, rfl⟩
  · have hh : Hid (oddB c = decide (126 < c.toNat)) := by unfold Hid oddB; simp [h]
    have h1 : decide ((c.toNat : Int) < 32) = false := by simp; omega
    go_enter Tryz.func106, Tryz.ntmps106
    go_wp2
    go_ret
    exact ⟨ret_bool (by rw [hh.out, Bool.eq_iff_iff]; simp; omega), rfl⟩
set_option maxHeartbeats 1000000 in
/-- The first odd byte's place, or -1. -/
theorem index_any (l : List UInt8) (g cap : Nat) (w : World) (hl : l.length ≤ 9223372036854775806) (hc : ∀ j, j < l.length → w.cell? ⟨g, j, none⟩ = some (.int .u8 (l.getD j 0).toNat)) :
    Calls Tryz.prog 117 #[.slice (some ⟨g, 0, none⟩) l.length cap, .func (.func 106) #[] #[]] w fun e w' => (∃ r : Int, e = .returned (.int .i64 r) ∧ decide (0 ≤ r) = oddL l) ∧ w' = w := by
  have HC := Lib.hid hc
  clear hc
  go_enter Tryz.func117, Tryz.ntmps117
  go_wp2_with fail
  go_loop [8] (fun iv => ∃ k : Nat, k ≤ l.length ∧ iv = .int .i64 (k : Int) ∧ Hid ((l.take k).any oddB = false)) (fun iv => l.length - (intOf iv).toNat)
  case atStart => exact ⟨0, Nat.zero_le _, rfl, rfl⟩
  case round =>
    obtain ⟨k, hk, rfl, H⟩ := hrel
    by_cases hlt : k < l.length
    · have hx := run_index_row (P := Tryz.prog) 122 5 Tryz.underlying122 1 (by kernel_rfl) (A := some ⟨g, 0, none⟩) rfl hlt cap
      have hcell := HC.out k hlt
      have hn : Hid ((l.take (k + 1)).any oddB = oddB (l.getD k 0)) := by
        unfold Hid
        rw [List.take_succ_eq_append_getElem hlt, List.any_append, H.out, List.getD_eq_getElem?_getD, List.getElem?_eq_getElem hlt]
        simp
      have hy : Hid (oddB (l.getD k 0) = true → oddL l = true) := by
        intro h
        unfold oddL
        rw [List.any_eq_true]
        exact ⟨_, by rw [List.getD_eq_getElem?_getD, List.getElem?_eq_getElem hlt]; exact List.getElem_mem hlt, h⟩
      have hodd := odd_any (l.getD k 0) w
      generalize l.getD k 0 = c at *
      cases ho : oddB c
      · rw [ho] at hodd
        have HO := Lib.hid hodd
        have hn2 : Hid ((l.take (k + 1)).any oddB = false) := hn.out.trans ho
        clear hodd hn hy ho
        go_wp2_with (first | go_skip | (refine call_fn rfl (.tmp 11) #[.tmp 15] #[5] rfl rfl Tryz.func106 (by kernel_rfl) (by kernel_rfl) #[.int .u8 (c.toNat : Int)] (by simp only [List.map_toArray, List.map_cons, List.map_nil]; rfl) ?_; (with_reducible (refine HO.out.mono ?_)); rintro e w1 ⟨rfl, rfl⟩; refine ⟨_, rfl, ?_⟩))
        go_round
        case rel => exact ⟨k + 1, by omega, by go_num, hn2⟩
        case measure => simp [intOf]; omega
      · rw [ho] at hodd
        have HO := Lib.hid hodd
        have hy2 : Hid (oddL l = true) := hy.out ho
        clear hodd hn hy ho
        go_wp2_with (first | go_skip | (refine call_fn rfl (.tmp 11) #[.tmp 15] #[5] rfl rfl Tryz.func106 (by kernel_rfl) (by kernel_rfl) #[.int .u8 (c.toNat : Int)] (by simp only [List.map_toArray, List.map_cons, List.map_nil]; rfl) ?_; (with_reducible (refine HO.out.mono ?_)); rintro e w1 ⟨rfl, rfl⟩; refine ⟨_, rfl, ?_⟩))
        go_ret
        exact ⟨⟨_, rfl, by rw [hy2.out]; simp⟩, rfl⟩
    · obtain rfl : k = l.length := by omega
      go_wp2_with fail
      go_ret
      refine ⟨⟨_, rfl, ?_⟩, rfl⟩
      have := H.out
      rw [List.take_length] at this
      unfold oddL; rw [this]; simp
set_option maxHeartbeats 1000000 in
theorem contains_any (l : List UInt8) (g cap : Nat) (w : World) (hl : l.length ≤ 9223372036854775806) (hc : ∀ j, j < l.length → w.cell? ⟨g, j, none⟩ = some (.int .u8 (l.getD j 0).toNat)) :
    Calls Tryz.prog 107 #[.slice (some ⟨g, 0, none⟩) l.length cap, .func (.func 106) #[] #[]] w fun e w' => e = .returned (.bool (oddL l)) ∧ w' = w := by
  have H := Lib.hid (index_any l g cap w hl hc)
  clear hc
  go_enter Tryz.func107, Tryz.ntmps107
  go_wp2_with (go_at_call 117; refine H.out.mono ?_; rintro e w1 ⟨⟨r, rfl, hr⟩, rfl⟩; have HR := Lib.hid hr; clear hr)
  go_ret
  exact ⟨ret_bool HR.out, rfl⟩
set_option maxRecDepth 100000 in
set_option maxHeartbeats 1000000 in
theorem stamp_any (s : ByteArray) (w : World) (hs : s.size ≤ 9223372036854775807) : Calls Tryz.prog 101 #[.string s] w fun e w' => e = .returned (.bool (stampB s)) ∧ Below w.heap.size w w' := by
  by_cases h1 : 1 ≤ s.size
  · have e1 : decide ((1 : Int) ≤ s.size) = true := by simp; omega
    have e1b : decide (1 ≤ s.size) = true := by simp; omega
    by_cases h2 : s.size ≤ 64
    · have e2 : decide ((s.size : Int) ≤ 64) = true := by simp; omega
      have e2b : decide (s.size ≤ 64) = true := by simp; omega
      have hh : Hid (stampB s = !(oddL s.data.toList)) := by unfold Hid stampB; simp [h1, h2]
      have hlen : s.data.toList.length = s.size := by rw [Lib.size_eq]
      have HC := Lib.hid (contains_any s.data.toList w.heap.size (grownCap w s.size 0 5) (Lib.bytesWorld w 5 s) (by rw [hlen]; omega) (fun j hj => Lib.bytesWorld_cell w 5 s j (by rw [hlen] at hj; exact hj)))
      have HB := Lib.hid (Joins.below_bytesWorld w.heap.size w 5 s (Nat.le_refl _))
      have HC := HC.out
      rw [hlen] at HC
      have HC := Lib.hid HC
      clear hlen
      go_enter Tryz.func101, Tryz.ntmps101
      go_wp2_with (first | go_skip | (rw [Lib.run_convert_string_bytes _ 9 122 5 _ Tryz.underlying9 Tryz.underlying122 Tryz.underlying5]) | (go_at_call 107; refine HC.out.mono ?_; rintro e w1 ⟨rfl, rfl⟩))
      go_ret
      exact ⟨ret_bool hh.out.symm, HB.out⟩
    · have e2 : decide ((s.size : Int) ≤ 64) = false := by simp; omega
      have e2b : decide (s.size ≤ 64) = false := by simp; omega
      have hh : Hid (stampB s = false) := by unfold Hid stampB; simp [h2]
      go_enter Tryz.func101, Tryz.ntmps101
      go_wp2
      go_ret
      exact ⟨ret_bool hh.out.symm, Below.refl _ _⟩
  · have e1 : decide ((1 : Int) ≤ s.size) = false := decide_eq_false (by omega)
    have e1b : decide (1 ≤ s.size) = false := decide_eq_false (by omega)
    have hh : Hid (stampB s = false) := by unfold Hid stampB; simp [h1]
    go_enter Tryz.func101, Tryz.ntmps101
    go_wp2
    go_ret
    exact ⟨ret_bool hh.out.symm, Below.refl _ _⟩
end Go.Proofs.YteplcnpmdjdlkaaGreatDoor
