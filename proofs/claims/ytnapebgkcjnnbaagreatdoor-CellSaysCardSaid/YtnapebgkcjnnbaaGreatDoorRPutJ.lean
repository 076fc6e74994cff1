/-
  The reference's Put tells what is written here, for all numbers. No condition.
-/
import Derived.Test.YtnapebgkcjnnbaaGreatDoorUtfTakeJ
import Derived.Laws.BytesArg
import Derived.Laws.BitsLemmas
import Derived.Below
import Derived.Test.YtnapebgkcjnnbaaGreatDoorJ2
namespace Go.Proofs.YtnapebgkcjnnbaaGreatDoor
open Go.RowKit
set_option linter.unusedVariables false
set_option linter.unusedSimpArgs false
def putL (r : Int) : List Int :=
  if r < 128 then [r] else if r < 2048 then [192 + r / 64, 128 + r % 64] else if r < 65536 then [224 + r / 4096, 128 + r / 64 % 64, 128 + r % 64] else [240 + r / 262144, 128 + r / 4096 % 64, 128 + r / 64 % 64, 128 + r % 64]
def putR (r : Int) : List Int := if goodR r then putL r else []
theorem bytes_string (w : World) (cs : Array Value) (xs : List Int) (hc : cs = (xs.map (Value.int .u8)).toArray) :
    (convert 55 9 (.slice (some ⟨w.heap.size, 0, none⟩) xs.length xs.length)).run Tryz.prog (w.alloc (.cells cs 5)) = .ok (.string (strOfNums xs)) (w.alloc (.cells cs 5)) := by
  subst hc
  refine run_convert_bytes_arg _ 55 5 Tryz.underlying55 Tryz.underlying5 w.heap.size 0 xs.length xs.length xs rfl (fun i hi => ?_) 9 Tryz.underlying9
  rw [Nat.zero_add, cell_of_row _ _ _ _ _ _ (heap_alloc_new w _)]
  simp [List.getElem?_eq_getElem hi, List.getD_eq_getElem?_getD]
theorem bs1 (w : World) (a : Int) : (convert 55 9 (.slice (some ⟨w.heap.size, 0, none⟩) 1 1)).run Tryz.prog (w.alloc (.cells #[.int .u8 a] 5)) = .ok (.string (strOfNums [a])) (w.alloc (.cells #[.int .u8 a] 5)) := bytes_string w _ [a] rfl
theorem bs2 (w : World) (a b : Int) : (convert 55 9 (.slice (some ⟨w.heap.size, 0, none⟩) 2 2)).run Tryz.prog (w.alloc (.cells #[.int .u8 a, .int .u8 b] 5)) = .ok (.string (strOfNums [a, b])) (w.alloc (.cells #[.int .u8 a, .int .u8 b] 5)) := bytes_string w _ [a, b] rfl
theorem bs3 (w : World) (a b c : Int) : (convert 55 9 (.slice (some ⟨w.heap.size, 0, none⟩) 3 3)).run Tryz.prog (w.alloc (.cells #[.int .u8 a, .int .u8 b, .int .u8 c] 5)) = .ok (.string (strOfNums [a, b, c])) (w.alloc (.cells #[.int .u8 a, .int .u8 b, .int .u8 c] 5)) := bytes_string w _ [a, b, c] rfl
theorem bs4 (w : World) (a b c d : Int) : (convert 55 9 (.slice (some ⟨w.heap.size, 0, none⟩) 4 4)).run Tryz.prog (w.alloc (.cells #[.int .u8 a, .int .u8 b, .int .u8 c, .int .u8 d] 5)) = .ok (.string (strOfNums [a, b, c, d])) (w.alloc (.cells #[.int .u8 a, .int .u8 b, .int .u8 c, .int .u8 d] 5)) := bytes_string w _ [a, b, c, d] rfl
set_option maxHeartbeats 400000 in
theorem rGood_any (r : Int) (w : World) : Calls Tryz.prog 80 #[.int .i64 r] w fun e w' => e = .returned (.bool (goodR r)) ∧ w' = w := by
  unfold goodR
  by_cases h1 : 0 ≤ r <;> by_cases h2 : r ≤ 1114111 <;> by_cases h3 : r < 55296
  all_goals
    go_enter Tryz.func80, Tryz.ntmps80
    go_wp2
    go_ret
    refine ⟨ret_bool ?_, rfl⟩
    rw [Bool.eq_iff_iff]; simp; omega
set_option maxRecDepth 100000 in
    set_option maxHeartbeats 1000000 in
    theorem put_1 (r : Int) (w : World) (hg : goodR r = true) (h0 : 0 ≤ r) (h9 : r ≤ 1114111) (h1 : r < 128) : Calls Tryz.prog 60 #[.int .i64 r] w fun e w' => e = .returned (.string (strOfNums (putR r))) ∧ Below w.heap.size w w' := by
      have hh : Hid (putR r = [r]) := by unfold Hid putR putL; rw [if_pos hg]; rw [if_pos h1]
      have g := rGood_any r w
      rw [hg] at g
      have G := Lib.hid g
      clear g hg
      go_enter Tryz.func60, Tryz.ntmps60
      go_wp2_with (first | go_skip | (go_at_call 80; (with_reducible refine (G.out).mono ?_); rintro e w' ⟨rfl, rfl⟩) | rw [bs1])
      go_ret
      exact ⟨by rw [hh.out]; rfl, (Below.refl _ _).alloc (Nat.le_refl _) _⟩
set_option maxRecDepth 100000 in
set_option maxHeartbeats 1000000 in
theorem put_2 (r : Int) (w : World) (hg : goodR r = true) (h0 : 0 ≤ r) (h9 : r ≤ 1114111) (h1 : ¬ r < 128) (h2 : r < 2048) : Calls Tryz.prog 60 #[.int .i64 r] w fun e w' => e = .returned (.string (strOfNums (putR r))) ∧ Below w.heap.size w w' := by
  have hh : Hid (putR r = [192 + r / 64, 128 + r % 64]) := by unfold Hid putR putL; rw [if_pos hg]; rw [if_neg h1, if_pos h2]
  have g := rGood_any r w
  rw [hg] at g
  have G := Lib.hid g
  clear g hg
  go_enter Tryz.func60, Tryz.ntmps60
  go_wp2_with (first | go_skip | (go_at_call 80; (with_reducible refine (G.out).mono ?_); rintro e w' ⟨rfl, rfl⟩) | rw [bs2])
  go_ret
  exact ⟨by rw [hh.out]; rfl, (Below.refl _ _).alloc (Nat.le_refl _) _⟩
set_option maxRecDepth 100000 in
set_option maxHeartbeats 1000000 in
theorem put_3 (r : Int) (w : World) (hg : goodR r = true) (h0 : 0 ≤ r) (h9 : r ≤ 1114111) (h1 : ¬ r < 128) (h2 : ¬ r < 2048) (h3 : r < 65536) : Calls Tryz.prog 60 #[.int .i64 r] w fun e w' => e = .returned (.string (strOfNums (putR r))) ∧ Below w.heap.size w w' := by
  have hh : Hid (putR r = [224 + r / 4096, 128 + r / 64 % 64, 128 + r % 64]) := by unfold Hid putR putL; rw [if_pos hg]; rw [if_neg h1, if_neg h2, if_pos h3]
  have g := rGood_any r w
  rw [hg] at g
  have G := Lib.hid g
  clear g hg
  go_enter Tryz.func60, Tryz.ntmps60
  go_wp2_with (first | go_skip | (go_at_call 80; (with_reducible refine (G.out).mono ?_); rintro e w' ⟨rfl, rfl⟩) | rw [bs3])
  go_ret
  exact ⟨by rw [hh.out]; rfl, (Below.refl _ _).alloc (Nat.le_refl _) _⟩
set_option maxRecDepth 100000 in
set_option maxHeartbeats 1000000 in
theorem put_4 (r : Int) (w : World) (hg : goodR r = true) (h0 : 0 ≤ r) (h9 : r ≤ 1114111) (h1 : ¬ r < 128) (h2 : ¬ r < 2048) (h3 : ¬ r < 65536) : Calls Tryz.prog 60 #[.int .i64 r] w fun e w' => e = .returned (.string (strOfNums (putR r))) ∧ Below w.heap.size w w' := by
  have hh : Hid (putR r = [240 + r / 262144, 128 + r / 4096 % 64, 128 + r / 64 % 64, 128 + r % 64]) := by unfold Hid putR putL; rw [if_pos hg]; rw [if_neg h1, if_neg h2, if_neg h3]
  have g := rGood_any r w
  rw [hg] at g
  have G := Lib.hid g
  clear g hg
  go_enter Tryz.func60, Tryz.ntmps60
  go_wp2_with (first | go_skip | (go_at_call 80; (with_reducible refine (G.out).mono ?_); rintro e w' ⟨rfl, rfl⟩) | rw [bs4])
  go_ret
  exact ⟨by rw [hh.out]; rfl, (Below.refl _ _).alloc (Nat.le_refl _) _⟩
theorem put_any (r : Int) (w : World) : Calls Tryz.prog 60 #[.int .i64 r] w fun e w' => e = .returned (.string (strOfNums (putR r))) ∧ Below w.heap.size w w' := by
  cases hg : goodR r
  · have hh : Hid (putR r = []) := by unfold Hid putR; rw [hg]; rfl
    have g := rGood_any r w
    rw [hg] at g
    have G := Lib.hid g
    clear g hg
    go_enter Tryz.func60, Tryz.ntmps60
    go_wp2_with (first | go_skip | (go_at_call 80; (with_reducible refine (G.out).mono ?_); rintro e w' ⟨rfl, rfl⟩))
    go_ret
    exact ⟨by rw [hh.out]; rfl, Below.refl _ _⟩
  · have h0 : 0 ≤ r ∧ r ≤ 1114111 := by
      unfold goodR at hg; simp at hg; omega
    by_cases h1 : r < 128
    · exact put_1 r w hg h0.1 h0.2 h1
    by_cases h2 : r < 2048
    · exact put_2 r w hg h0.1 h0.2 h1 h2
    by_cases h3 : r < 65536
    · exact put_3 r w hg h0.1 h0.2 h1 h2 h3
    · exact put_4 r w hg h0.1 h0.2 h1 h2 h3
end Go.Proofs.YtnapebgkcjnnbaaGreatDoor
