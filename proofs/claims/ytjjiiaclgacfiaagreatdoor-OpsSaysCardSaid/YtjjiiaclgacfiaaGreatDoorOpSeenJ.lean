/-
  (ops.Op).seen tells what is written here. Condition: the operation's name may be; 64 numbers in a vector.
-/
import Derived.Test.YtjjiiaclgacfiaaGreatDoorJ4
namespace Go.Proofs.YtjjiiaclgacfiaaGreatDoor
open Go.RowKit
set_option linter.unusedVariables false
set_option linter.unusedSimpArgs false
theorem seen_info' (o : OpV) (h : o.seen.length = 64) : (Tryz.prog.info? 25).map (·.size) = some (vcells o.seen).size := by
  rw [vcells_size, h]; kernel_rfl
/-- May a vector's k-th number be what an operation has seen? -/
def seenAt (o : OpV) (k : Nat) : Bool := decide (0 ≤ vat o.seen k) && decide (vat o.seen k ≤ 60) && (!((k : Int) == o.R - 1) || (vat o.seen k == o.N - 1))
def seenTo (o : OpV) : Nat → Bool
  | 0 => true
  | k + 1 => seenTo o k && seenAt o k
def seenB (o : OpV) : Bool := seenTo o 64
theorem seenTo_iff (o : OpV) (n : Nat) : seenTo o n = true ↔ ∀ k, k < n → seenAt o k = true := by
  induction n with
  | zero => simp [seenTo]
  | succ n ih =>
    simp only [seenTo, Bool.and_eq_true, ih]
    constructor
    · rintro ⟨h1, h2⟩ k hk
      rcases Nat.lt_or_ge k n with h | h
      · exact h1 k h
      · obtain rfl : k = n := by omega
        exact h2
    · intro h
      exact ⟨fun k hk => h k (by omega), h n (by omega)⟩
theorem seenB_no {o : OpV} {k : Nat} (hk : k < 64) (h : seenAt o k = false) : seenB o = false := by
  rw [Bool.eq_false_iff]
  intro hs
  rw [(seenTo_iff o 64).1 hs k hk] at h
  cases h
theorem run_index_vec {P : Program} (t e : TypeId) (ht : P.underlying t = some (.array 64 e)) (he : P.underlying e = some (.int .i64)) (hs : (P.info? e).map (·.size) = some 1)
    (v : List Int) (hv : v.length = 64) (k : Nat) (hk : k < 64) (w : World) : (Instr.index t (.agg (vcells v)) (.int .i64 (k : Int))).run P w = .ok (.int .i64 (vat v k)) w := by
  obtain ⟨i0, hi0, hi1⟩ := Option.map_eq_some_iff.1 hs
  have hsz : (sizeOf e).run P w = .ok 1 w := by simp [sizeOf, typeInfo, hi0, hi1]
  have hag : (isAgg e).run P w = .ok false w := by
    unfold isAgg
    rw [Sem.run_bind, run_underlying he w]
    rfl
  have hp : (part e (vcells v) k).run P w = .ok (.int .i64 (vat v k)) w := by
    unfold part
    simp [Sem.run_bind, hag, vcells_get v k (by omega)]
  have hlt : (k : Int) < (64 : Nat) := by omega
  unfold Instr.index
  simp [asIntOf, Sem.run_bind, run_underlying ht, hsz, hp, hk]
set_option maxHeartbeats 4000000 in
theorem seen_any (o : OpV) (w : World) (ho : o.seen.length = 64) (hr1 : 1 ≤ o.R) (hr2 : o.R ≤ 64) (hn1 : 1 ≤ o.N) (hn2 : o.N ≤ 60) : Calls Tryz.prog 15 #[opv o] w fun e w' => e = .returned (.bool (seenB o)) ∧ Below w.heap.size w w' := by
  have a0 := OpV.g0 (o := o)
  have a1 := OpV.g1 (o := o)
  go_enter Tryz.func15, Tryz.ntmps15
  go_wp2_with (refine load_part rfl 25 (.tmp 5) rfl _ 3 rfl _ _ (0, 0) _ _ (heap_alloc_new _ _) (OpV.pSeen ho) Tryz.underlying25 rfl (seen_info' _ ho) ?_)
  go_loop [7] (fun iv => ∃ k : Nat, k ≤ 64 ∧ iv = .int .i64 (k : Int) ∧ Hid (seenTo o k = true)) (fun iv => 64 - (intOf iv).toNat)
  case atStart => exact ⟨0, by omega, rfl, rfl⟩
  case round =>
    obtain ⟨k, hk, rfl, H⟩ := hrel
    by_cases hlt : k < 64
    · have hix := run_index_vec (P := Tryz.prog) 25 2 Tryz.underlying25 Tryz.underlying2 (by kernel_rfl) o.seen ho k hlt
      have hat : Hid (seenAt o k = (decide (0 ≤ vat o.seen k) && decide (vat o.seen k ≤ 60) && (!((k : Int) == o.R - 1) || (vat o.seen k == o.N - 1)))) := rfl
      have hno := @seenB_no o k hlt
      have HN := Lib.hid hno
      clear hno
      generalize vat o.seen k = x at *
      by_cases h0 : x < 0
      · have hh : Hid (seenB o = false) := HN.out (by rw [hat.out, decide_eq_false (show ¬ 0 ≤ x by omega)]; rfl)
        clear hat HN
        go_wp2
        go_ret
        exact ⟨ret_bool hh.out.symm, (Below.refl _ _).alloc (Nat.le_refl _) _⟩
      · by_cases h6 : 60 < x
        · have hh : Hid (seenB o = false) := HN.out (by rw [hat.out, decide_eq_false (show ¬ x ≤ 60 by omega)]; simp)
          clear hat HN
          go_wp2
          go_ret
          exact ⟨ret_bool hh.out.symm, (Below.refl _ _).alloc (Nat.le_refl _) _⟩
        · by_cases hkr : (k : Int) = o.R - 1
          · have hkb : ((k : Int) == o.R - 1) = true := by simpa using hkr
            by_cases hxn : x = o.N - 1
            · have hxb : (x != o.N - 1) = false := by simpa using hxn
              have hs : Hid (seenTo o (k + 1) = true) := by unfold Hid; rw [seenTo, H.out, hat.out]; simp [hkr, hxn]; omega
              clear hat HN hkr hxn
              go_wp2
              go_round
              case rel => exact ⟨k + 1, by omega, by go_num, hs⟩
              case measure => simp [intOf]; omega
            · have hxb : (x != o.N - 1) = true := by simpa using hxn
              have hh : Hid (seenB o = false) := HN.out (by rw [hat.out]; simp [hkr, hxn])
              clear hat HN hkr hxn
              go_wp2
              go_ret
              exact ⟨ret_bool hh.out.symm, (Below.refl _ _).alloc (Nat.le_refl _) _⟩
          · have hkb : ((k : Int) == o.R - 1) = false := by simpa using hkr
            have hs : Hid (seenTo o (k + 1) = true) := by unfold Hid; rw [seenTo, H.out, hat.out]; simp [hkr]; omega
            clear hat HN hkr
            go_wp2
            go_round
            case rel => exact ⟨k + 1, by omega, by go_num, hs⟩
            case measure => simp [intOf]; omega
    · obtain rfl : k = 64 := by omega
      go_wp2
      go_ret
      exact ⟨ret_bool H.out.symm, (Below.refl _ _).alloc (Nat.le_refl _) _⟩
end Go.Proofs.YtjjiiaclgacfiaaGreatDoor
