/-
  The reference's Text, walked: a number's digits. Condition: a number that an int64 holds.
-/
import Derived.Test.YtnapebgkcjnnbaaGreatDoorJ10
import Derived.Laws.IdiomStrings
import Derived.Deep.RegionWith
import Derived.Lib.ItoaLen
import Derived.Test.YtnapebgkcjnnbaaGreatDoorJ2
namespace Go.Proofs.YtnapebgkcjnnbaaGreatDoor
open Go.RowKit
set_option linter.unusedVariables false
set_option linter.unusedSimpArgs false
theorem conv_one (w : World) (v : Int) (c : UInt8) (hv : (c.toNat : Int) = v) : (convert 55 9 (.slice (some ⟨w.heap.size, 0, none⟩) 1 1)).run Tryz.prog (w.alloc (.cells #[.int .u8 v] 5)) = .ok (.string ⟨#[c]⟩) (w.alloc (.cells #[.int .u8 v] 5)) := by
  have h := run_convert_bytes_back (P := Tryz.prog) (w.alloc (.cells #[.int .u8 v] 5)) 55 9 5 ⟨w.heap.size, 0, none⟩ 1 [c] Tryz.underlying55 Tryz.underlying5 Tryz.underlying9 (fun j hj => by
    have : j = 0 := by simpa using hj
    subst this
    have ha : (⟨w.heap.size, 0, none⟩ : Addr).add 0 = ⟨w.heap.size, 0, none⟩ := rfl
    rw [ha, cell_of_row _ w.heap.size 0 _ 5 (0, 0) (heap_alloc_new _ _), ← hv]
    rfl)
  exact h
theorem conv_row {w : World} {g : Nat} {v : Int} {c : UInt8} (hg : w.heap[g]? = some (.cells #[.int .u8 v] 5 (0, 0))) (hv : (c.toNat : Int) = v) : (convert 55 9 (.slice (some ⟨g, 0, none⟩) 1 1)).run Tryz.prog w = .ok (.string ⟨#[c]⟩) w := by
  have h := run_convert_bytes_back (P := Tryz.prog) w 55 9 5 ⟨g, 0, none⟩ 1 [c] Tryz.underlying55 Tryz.underlying5 Tryz.underlying9 (fun j hj => by
    have : j = 0 := by simpa using hj
    subst this
    have ha : (⟨g, 0, none⟩ : Addr).add 0 = ⟨g, 0, none⟩ := rfl
    rw [ha, cell_of_row _ g 0 _ 5 (0, 0) hg, ← hv]
    rfl)
  exact h
theorem conv_below {w w2 : World} {v : Int} {c : UInt8} (hb : Below (w.alloc (.cells #[.int .u8 v] 5)).heap.size (w.alloc (.cells #[.int .u8 v] 5)) w2) (hv : (c.toNat : Int) = v) : (convert 55 9 (.slice (some ⟨w.heap.size, 0, none⟩) 1 1)).run Tryz.prog w2 = .ok (.string ⟨#[c]⟩) w2 :=
  conv_row ((hb.block w.heap.size (by simp)).trans (heap_alloc_new _ _)) hv
theorem fin1 {w w1 : World} (h : Below w.drew.heap.size w.drew w1) (o : Obj) : Below w.heap.size w (w1.alloc o) :=
  (((Below.refl w.heap.size w).drew).trans h).alloc h.size o
theorem fin2 {w w1 : World} {o : Obj} (h : Below ((w.alloc o).drew).heap.size ((w.alloc o).drew) w1) : Below w.heap.size w w1 :=
  (((Below.refl w.heap.size w).alloc (Nat.le_refl _) o).drew).trans (h.mono (by simp))
theorem itoa_21' (u : Nat) (h : (u : Int) ≤ 9223372036854775807) : (Lib.decDigits u).length ≤ 21 := by
  have := Lib.itoa_length_le (u : Int) (by omega) h
  unfold Lib.itoa at this
  rw [if_neg (by omega)] at this
  exact this
theorem dec_step {u q r : Nat} (h : 10 ≤ u) (hq : u / 10 = q) (hr : u % 10 = r) : Lib.decDigits u = Lib.decDigits q ++ [UInt8.ofNat (48 + r)] := by
  rw [Lib.decDigits, dif_neg (by omega), hq, hr]
theorem least_digits : Lib.itoa (-9223372036854775808) = [45, 57, 50, 50, 51, 51, 55, 50, 48, 51, 54, 56, 53, 52, 55, 55, 53, 56, 48, 56] := by
  unfold Lib.itoa
  rw [if_pos (by decide)]
  congr 1
  show Lib.decDigits 9223372036854775808 = _
  rw [dec_step (q := 922337203685477580) (r := 8) (by decide) (by decide) (by decide), dec_step (q := 92233720368547758) (r := 0) (by decide) (by decide) (by decide), dec_step (q := 9223372036854775) (r := 8) (by decide) (by decide) (by decide), dec_step (q := 922337203685477) (r := 5) (by decide) (by decide) (by decide), dec_step (q := 92233720368547) (r := 7) (by decide) (by decide) (by decide), dec_step (q := 9223372036854) (r := 7) (by decide) (by decide) (by decide), dec_step (q := 922337203685) (r := 4) (by decide) (by decide) (by decide), dec_step (q := 92233720368) (r := 5) (by decide) (by decide) (by decide), dec_step (q := 9223372036) (r := 8) (by decide) (by decide) (by decide), dec_step (q := 922337203) (r := 6) (by decide) (by decide) (by decide), dec_step (q := 92233720) (r := 3) (by decide) (by decide) (by decide), dec_step (q := 9223372) (r := 0) (by decide) (by decide) (by decide), dec_step (q := 922337) (r := 2) (by decide) (by decide) (by decide), dec_step (q := 92233) (r := 7) (by decide) (by decide) (by decide), dec_step (q := 9223) (r := 3) (by decide) (by decide) (by decide), dec_step (q := 922) (r := 3) (by decide) (by decide) (by decide), dec_step (q := 92) (r := 2) (by decide) (by decide) (by decide), dec_step (q := 9) (r := 2) (by decide) (by decide) (by decide), Lib.decDigits_one (by decide)]
  rfl
set_option maxRecDepth 100000 in
set_option maxHeartbeats 1000000 in
theorem rtext_digit (u : Nat) (w : World) (hu : u < 10) : Calls Tryz.prog 17 #[.int .i64 (u : Int)] w fun e w' => e = .returned (.string ⟨(Lib.decDigits u).toArray⟩) ∧ Below w.heap.size w w' := by
  rw [Lib.decDigits_one hu]
  have hc : ((UInt8.ofNat (48 + u)).toNat : Int) = 48 + (u : Int) := by rw [dig_nat hu]; omega
  have HC := Lib.hid hc
  have h0 : ¬ (u : Int) < 0 := by omega
  have h1 : (u : Int) < 10 := by omega
  clear hc
  go_enter Tryz.func17, Tryz.ntmps17
  go_wp2_with (rw [conv_one _ _ _ HC.out])
  go_ret
  exact ⟨rfl, (Below.refl _ _).alloc (Nat.le_refl _) _⟩
set_option maxRecDepth 100000 in
set_option maxHeartbeats 1000000 in
theorem rtext_more (u q r : Nat) (w : World) (hu : 10 ≤ u) (hu2 : (u : Int) ≤ 9223372036854775807) (hq : u / 10 = q) (hr : u % 10 = r) (ih : ∀ W, Calls Tryz.prog 17 #[.int .i64 (q : Int)] W fun e w' => e = .returned (.string ⟨(Lib.decDigits q).toArray⟩) ∧ Below W.heap.size W w') (T : ByteArray) (hT : (⟨(Lib.decDigits q).toArray⟩ : ByteArray) = T) (hTs : T.size ≤ 30) (c : UInt8) (hc : (c.toNat : Int) = 48 + (r : Int)) :
    Calls Tryz.prog 17 #[.int .i64 (u : Int)] w fun e w' => e = .returned (.string (T ++ ⟨#[c]⟩)) ∧ Below w.heap.size w w' := by
  have hr9 : r < 10 := by omega
  have hq1 : IntKind.i64.wrap ((u : Int) / 10) = (q : Int) := by rw [IntWalk.i64_left, IntWalk.wrap64_in _ (by omega)]; omega
  have hq2 : (u : Int).tmod 10 = (r : Int) := by rw [Int.tmod_eq_emod_of_nonneg (by omega)]; omega
  have hq3 : IntKind.i64.wrap (48 + (r : Int)) = 48 + (r : Int) := by rw [IntWalk.i64_left, IntWalk.wrap64_in _ (by omega)]
  have hq4 : IntKind.u8.wrap (48 + (r : Int)) = 48 + (r : Int) := by
    rcases (show r = 0 ∨ r = 1 ∨ r = 2 ∨ r = 3 ∨ r = 4 ∨ r = 5 ∨ r = 6 ∨ r = 7 ∨ r = 8 ∨ r = 9 by omega) with h | h | h | h | h | h | h | h | h | h <;> subst h <;> decide
  have HC := Lib.hid hc
  have HI := Lib.hid ih
  have HT := Lib.hid hT
  have h0 : ¬ (u : Int) < 0 := by omega
  have h1 : ¬ (u : Int) < 10 := by omega
  clear hc ih hT
  go_enter Tryz.func17, Tryz.ntmps17
  have hrA : ((w.alloc (.cells #[.int .u8 (48 + (r : Int))] 5)).drew).heap[w.heap.size]? = some (.cells #[.int .u8 (48 + (r : Int))] 5 (0, 0)) := heap_alloc_new w _
  have hcA := conv_row hrA HC.out
  have HrA := Lib.hid hrA
  clear hrA
  go_wp2
  go_region_with (go_at_call 17; refine (HI.out _).mono ?_; rintro e w1 ⟨rfl, hb1⟩; rw [HT.out]; have hcC := conv_one w1 _ _ HC.out; (try (have hcB := conv_row ((hb1.block w.heap.size (by simp)).trans HrA.out) HC.out)); have HB := Lib.hid hb1; clear hb1)
  all_goals go_wp2
  all_goals go_ret
  all_goals refine ⟨rfl, ?_⟩
  all_goals first | exact fin1 HB.out _ | exact fin2 HB.out
set_option maxRecDepth 100000 in
set_option maxHeartbeats 1000000 in
theorem rtext_neg (n : Int) (w : World) (h0 : n < 0) (h1 : ¬ n = -9223372036854775808) (h2 : -9223372036854775808 ≤ n) (m : Nat) (hm : -n = (m : Int)) (ih : ∀ W, Calls Tryz.prog 17 #[.int .i64 (m : Int)] W fun e w' => e = .returned (.string ⟨(Lib.decDigits m).toArray⟩) ∧ Below W.heap.size W w') (T : ByteArray) (hT : (⟨(Lib.decDigits m).toArray⟩ : ByteArray) = T) (hTs : T.size ≤ 30) :
    Calls Tryz.prog 17 #[.int .i64 n] w fun e w' => e = .returned (.string (⟨#[45]⟩ ++ T)) ∧ Below w.heap.size w w' := by
  have HI := Lib.hid ih
  have HT := Lib.hid hT
  have HM := Lib.hid hm
  clear ih hT hm
  go_enter Tryz.func17, Tryz.ntmps17
  go_wp2_with (go_at_call 17; rw [HM.out]; refine (HI.out _).mono ?_; rintro e w1 ⟨rfl, hb1⟩; rw [HT.out]; have HB := Lib.hid hb1; clear hb1)
  go_ret
  exact ⟨rfl, HB.out⟩
set_option maxRecDepth 100000 in
set_option maxHeartbeats 1000000 in
theorem rtext_least (w : World) : Calls Tryz.prog 17 #[.int .i64 (-9223372036854775808)] w fun e w' => e = .returned (.string ⟨#[45, 57, 50, 50, 51, 51, 55, 50, 48, 51, 54, 56, 53, 52, 55, 55, 53, 56, 48, 56]⟩) ∧ Below w.heap.size w w' := by
  go_enter Tryz.func17, Tryz.ntmps17
  go_wp2
  go_ret
  exact ⟨rfl, Below.refl _ _⟩
theorem rtext_pos (u : Nat) (w : World) (hu : (u : Int) ≤ 9223372036854775807) : Calls Tryz.prog 17 #[.int .i64 (u : Int)] w fun e w' => e = .returned (.string ⟨(Lib.decDigits u).toArray⟩) ∧ Below w.heap.size w w' := by
  induction u using Nat.strongRecOn generalizing w with
  | ind u ih =>
    by_cases h : u < 10
    · exact rtext_digit u w h
    · have hl := (itoa_21' (u / 10) (by omega))
      have e : (⟨(Lib.decDigits u).toArray⟩ : ByteArray) = (⟨(Lib.decDigits (u / 10)).toArray⟩ : ByteArray) ++ ⟨#[UInt8.ofNat (48 + u % 10)]⟩ := by
        refine ba_ext ?_
        rw [ba_append]
        show Lib.decDigits u = Lib.decDigits (u / 10) ++ [UInt8.ofNat (48 + u % 10)]
        rw [Lib.decDigits, dif_neg h]
      rw [e]
      exact rtext_more u (u / 10) (u % 10) w (by omega) hu rfl rfl (fun W => ih (u / 10) (by omega) W (by omega)) _ rfl (by rw [Lib.size_eq]; show (Lib.decDigits (u / 10)).length ≤ 30; omega) _ (by rw [dig_nat (by omega)]; omega)
theorem rtext_any (n : Int) (w : World) (h0 : -9223372036854775808 ≤ n) (h1 : n ≤ 9223372036854775807) : Calls Tryz.prog 17 #[.int .i64 n] w fun e w' => e = .returned (.string ⟨(Lib.itoa n).toArray⟩) ∧ Below w.heap.size w w' := by
  by_cases hn : n < 0
  · by_cases hl : n = -9223372036854775808
    · subst hl
      have e : Lib.itoa (-9223372036854775808) = [45, 57, 50, 50, 51, 51, 55, 50, 48, 51, 54, 56, 53, 52, 55, 55, 53, 56, 48, 56] := least_digits
      rw [e]; exact rtext_least w
    · have hl_ := hl
      obtain ⟨m, hm⟩ : ∃ m : Nat, -n = (m : Int) := ⟨n.natAbs, by omega⟩
      have e : (⟨(Lib.itoa n).toArray⟩ : ByteArray) = (⟨#[45]⟩ : ByteArray) ++ (⟨(Lib.decDigits m).toArray⟩ : ByteArray) := by
        refine ba_ext ?_
        rw [ba_append]
        show Lib.itoa n = 45 :: Lib.decDigits m
        unfold Lib.itoa
        rw [if_pos hn, show n.natAbs = m by omega]
      rw [e]
      have hl := itoa_21' m (by omega)
      exact rtext_neg n w hn hl_ h0 m hm (fun W => rtext_pos m W (by omega)) _ rfl (by rw [Lib.size_eq]; show (Lib.decDigits m).length ≤ 30; omega)
  · obtain ⟨u, rfl⟩ : ∃ u : Nat, n = (u : Int) := ⟨n.toNat, by omega⟩
    have e : Lib.itoa (u : Int) = Lib.decDigits u := by unfold Lib.itoa; rw [if_neg hn]; rfl
    rw [e]; exact rtext_pos u w h1
end Go.Proofs.YtnapebgkcjnnbaaGreatDoor
