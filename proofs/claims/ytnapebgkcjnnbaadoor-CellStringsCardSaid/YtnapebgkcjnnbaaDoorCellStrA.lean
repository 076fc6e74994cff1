/-
  CellStrings is true for all strings, all numbers. Condition: the library's variables as it lays them.
-/
import Derived.Test.YtnapebgkcjnnbaaDoorCellStr
import Derived.Test.YtnapebgkcjnnbaaDoorCellStr5
namespace Go.Proofs.YtnapebgkcjnnbaaDoor
open Go.RowKit
set_option linter.unusedVariables false
set_option linter.unusedSimpArgs false
theorem and_65535 (n : Int) : 0 ≤ bits BinOp.and IntKind.i64 n 65535 := by
  simp only [bits, BitVec.toNat_and]
  have h : (BitVec.ofInt IntKind.i64.bits n).toNat &&& (BitVec.ofInt IntKind.i64.bits 65535).toNat ≤ 65535 := Nat.le_trans Nat.and_le_right (by decide)
  generalize (BitVec.ofInt IntKind.i64.bits n).toNat &&& (BitVec.ofInt IntKind.i64.bits 65535).toNat = m at h
  rw [IntKind.wrap_i64]
  omega
theorem mod_six (x : Int) (h : 0 ≤ x) : x.tmod 6 = 0 ∨ x.tmod 6 = 1 ∨ x.tmod 6 = 2 ∨ x.tmod 6 = 3 ∨ x.tmod 6 = 4 ∨ x.tmod 6 = 5 := by
  rw [Int.tmod_eq_emod_of_nonneg h]
  omega
/-- A string that may be and is not too long. -/
theorem str_facts (S : ByteArray) (hl : S.size ≤ 4000) (h : ¬ 0 ≤ rV (validS S)) : (letC S == 0) = true := by
  have hv : (validS S).2 = true := (rV_neg S).1 (by omega)
  unfold letC
  rw [if_pos hv, if_neg (by omega)]; rfl
theorem quo_app (S : ByteArray) : quo S = ({ data := #[39] } ++ S : ByteArray) := rfl
theorem app_size (a b : ByteArray) : (a ++ b).size = a.size + b.size := by simp
theorem ts_size (S : ByteArray) (hl : S.size ≤ 4000) : (textS S).size ≤ 9223372036854775807 := by
  unfold textS
  split
  · rw [quo_app, app_size]
    show 1 + S.size ≤ _
    omega
  · omega
section
variable (s : ByteArray) (n how : Int) (w : World) (hw : Vars w) (hs : s.size ≤ 140737488351232) (hn0 : -9223372036854775808 ≤ n) (hn1 : n ≤ 9223372036854775807)
include hw hs hn0 hn1
set_option maxHeartbeats 2000000 in
theorem cellStrings_walk : Calls Tryd.prog 4 #[.string s, .int .i64 n, .int .i64 how] w fun e w' => e = .returned (.bool true) ∧ Below w.heap.size w w' := by
  have HN : ∀ W, Calls Tryd.prog 8 #[.int .i64 n] W fun e w' => e = .returned (.string ⟨(Lib.itoa n).toArray⟩) ∧ Below W.heap.size W w' := fun W => rtext_any n W hn0 hn1
  have hN : (⟨(Lib.itoa n).toArray⟩ : ByteArray).size ≤ 21 := by
    rw [Lib.size_eq, itoa_ba]
    exact (itoa_short n hn0 hn1).1
  generalize (⟨(Lib.itoa n).toArray⟩ : ByteArray) = N at HN hN
  cases q1 : (bits BinOp.and IntKind.i64 how 7 == 1)
  case true =>
    by_cases hl : 4000 < (N.size : Int)
    · exact cs1_l s n how w hw hs q1 N hN HN hl
    have hz : (N : ByteArray).size ≤ 4000 := by skip; omega
    have HX : ∀ W, Calls Tryd.prog 9 #[.string N] W fun e w' => e = .returned (.int .i64 (rV (validS N))) ∧ Below W.heap.size W w' := fun W => rvalid_any _ W (by omega)
    by_cases hx : 0 ≤ rV (validS N)
    · exact cs1_v s n how w hw hs q1 N hN HN hl _ hx HX
    have h5 := str_cell N (str_facts _ hz hx)
    have f1 := h5.2.2.2.1
    generalize hT : textS N = T at h5 f1
    have h6 := ts_size _ hz
    rw [hT] at h6
    cases hq : quotB N
    · rw [hq] at f1
      exact cs1_p s n how w hw hs q1 N hN HN hl _ hx HX (Nat.le_trans hz (by decide)) T h6 h5.1 h5.2.1 h5.2.2.1 f1
    · rw [hq] at f1
      exact cs1_q s n how w hw hs q1 N hN HN hl _ hx HX (Nat.le_trans hz (by decide)) T h6 h5.1 h5.2.1 h5.2.2.1 f1 (by rw [h5.2.2.2.2 hq, quo_app]; simp) (by omega)
  cases q2 : (bits BinOp.and IntKind.i64 how 7 == 2)
  case true =>
    obtain ⟨S, hS⟩ : ∃ S : ByteArray, ({ data := #[39] } ++ s : ByteArray) = S := ⟨_, rfl⟩
    by_cases hl : 4000 < 1 + (s.size : Int)
    · exact cs2_l s n how w hw hs q1 q2 S hS hl
    have hz : (S : ByteArray).size ≤ 4000 := by rw [← hS, app_size]; show 1 + s.size ≤ 4000; omega
    have HX : ∀ W, Calls Tryd.prog 9 #[.string S] W fun e w' => e = .returned (.int .i64 (rV (validS S))) ∧ Below W.heap.size W w' := fun W => rvalid_any _ W (by omega)
    by_cases hx : 0 ≤ rV (validS S)
    · exact cs2_v s n how w hw hs q1 q2 S hS hl _ hx HX
    have h5 := str_cell S (str_facts _ hz hx)
    have f1 := h5.2.2.2.1
    generalize hT : textS S = T at h5 f1
    have h6 := ts_size _ hz
    rw [hT] at h6
    cases hq : quotB S
    · rw [hq] at f1
      exact cs2_p s n how w hw hs q1 q2 S hS hl _ hx HX (Nat.le_trans hz (by decide)) T h6 h5.1 h5.2.1 h5.2.2.1 f1
    · rw [hq] at f1
      exact cs2_q s n how w hw hs q1 q2 S hS hl _ hx HX (Nat.le_trans hz (by decide)) T h6 h5.1 h5.2.1 h5.2.2.1 f1 (by rw [h5.2.2.2.2 hq, quo_app]; simp) (by omega)
  cases q3 : (bits BinOp.and IntKind.i64 how 7 == 3)
  case true =>
    obtain ⟨S, hS⟩ : ∃ S : ByteArray, ({ data := #[64] } ++ s : ByteArray) = S := ⟨_, rfl⟩
    by_cases hl : 4000 < 1 + (s.size : Int)
    · exact cs3_l s n how w hw hs q1 q2 q3 S hS hl
    have hz : (S : ByteArray).size ≤ 4000 := by rw [← hS, app_size]; show 1 + s.size ≤ 4000; omega
    have HX : ∀ W, Calls Tryd.prog 9 #[.string S] W fun e w' => e = .returned (.int .i64 (rV (validS S))) ∧ Below W.heap.size W w' := fun W => rvalid_any _ W (by omega)
    by_cases hx : 0 ≤ rV (validS S)
    · exact cs3_v s n how w hw hs q1 q2 q3 S hS hl _ hx HX
    have h5 := str_cell S (str_facts _ hz hx)
    have f1 := h5.2.2.2.1
    generalize hT : textS S = T at h5 f1
    have h6 := ts_size _ hz
    rw [hT] at h6
    cases hq : quotB S
    · rw [hq] at f1
      exact cs3_p s n how w hw hs q1 q2 q3 S hS hl _ hx HX (Nat.le_trans hz (by decide)) T h6 h5.1 h5.2.1 h5.2.2.1 f1
    · rw [hq] at f1
      exact cs3_q s n how w hw hs q1 q2 q3 S hS hl _ hx HX (Nat.le_trans hz (by decide)) T h6 h5.1 h5.2.1 h5.2.2.1 f1 (by rw [h5.2.2.2.2 hq, quo_app]; simp) (by omega)
  cases q4 : (bits BinOp.and IntKind.i64 how 7 == 4)
  case true =>
    obtain ⟨S, hS⟩ : ∃ S : ByteArray, (N ++ { data := #[46, 53, 101, 51] } : ByteArray) = S := ⟨_, rfl⟩
    by_cases hl : 4000 < (N.size : Int) + 4
    · exact cs4_l s n how w hw hs q1 q2 q3 q4 N hN HN S hS hl
    have hz : (S : ByteArray).size ≤ 4000 := by rw [← hS, app_size]; show N.size + 4 ≤ 4000; omega
    have HX : ∀ W, Calls Tryd.prog 9 #[.string S] W fun e w' => e = .returned (.int .i64 (rV (validS S))) ∧ Below W.heap.size W w' := fun W => rvalid_any _ W (by omega)
    by_cases hx : 0 ≤ rV (validS S)
    · exact cs4_v s n how w hw hs q1 q2 q3 q4 N hN HN S hS hl _ hx HX
    have h5 := str_cell S (str_facts _ hz hx)
    have f1 := h5.2.2.2.1
    generalize hT : textS S = T at h5 f1
    have h6 := ts_size _ hz
    rw [hT] at h6
    cases hq : quotB S
    · rw [hq] at f1
      exact cs4_p s n how w hw hs q1 q2 q3 q4 N hN HN S hS hl _ hx HX (Nat.le_trans hz (by decide)) T h6 h5.1 h5.2.1 h5.2.2.1 f1
    · rw [hq] at f1
      exact cs4_q s n how w hw hs q1 q2 q3 q4 N hN HN S hS hl _ hx HX (Nat.le_trans hz (by decide)) T h6 h5.1 h5.2.1 h5.2.2.1 f1 (by rw [h5.2.2.2.2 hq, quo_app]; simp) (by omega)
  cases q5 : (bits BinOp.and IntKind.i64 how 7 == 5)
  case true =>
    rcases mod_six _ (and_65535 n) with h | h | h | h | h | h
    · exact cs5_0 s n how w hw q1 q2 q3 q4 q5 h
    · exact cs5_1 s n how w hw q1 q2 q3 q4 q5 h
    · exact cs5_2 s n how w hw q1 q2 q3 q4 q5 h
    · exact cs5_3 s n how w hw q1 q2 q3 q4 q5 h
    · exact cs5_4 s n how w hw q1 q2 q3 q4 q5 h
    · exact cs5_5 s n how w hw q1 q2 q3 q4 q5 h
  by_cases hl : 4000 < (s.size : Int)
  · exact cs0_l s n how w hw hs q1 q2 q3 q4 q5 hl
  have hz : (s : ByteArray).size ≤ 4000 := by skip; omega
  have HX : ∀ W, Calls Tryd.prog 9 #[.string s] W fun e w' => e = .returned (.int .i64 (rV (validS s))) ∧ Below W.heap.size W w' := fun W => rvalid_any _ W (by omega)
  by_cases hx : 0 ≤ rV (validS s)
  · exact cs0_v s n how w hw hs q1 q2 q3 q4 q5 hl _ hx HX
  have h5 := str_cell s (str_facts _ hz hx)
  have f1 := h5.2.2.2.1
  generalize hT : textS s = T at h5 f1
  have h6 := ts_size _ hz
  rw [hT] at h6
  cases hq : quotB s
  · rw [hq] at f1
    exact cs0_p s n how w hw hs q1 q2 q3 q4 q5 hl _ hx HX (Nat.le_trans hz (by decide)) T h6 h5.1 h5.2.1 h5.2.2.1 f1
  · rw [hq] at f1
    exact cs0_q s n how w hw hs q1 q2 q3 q4 q5 hl _ hx HX (Nat.le_trans hz (by decide)) T h6 h5.1 h5.2.1 h5.2.2.1 f1 (by rw [h5.2.2.2.2 hq, quo_app]; simp) (by omega)
end
theorem cellStrings_card (s : ByteArray) (n how : Int) (w : World) (hw : Vars w) (hs : s.size ≤ 140737488351232) (wn : (Lit.int .i64 n).wf = true) (wh : (Lit.int .i64 how).wf = true) : Calls Tryd.prog 4 #[.string s, .int .i64 n, .int .i64 how] w fun e w' => e = .returned (.bool true) ∧ Below w.heap.size w w' :=
  cellStrings_walk s n how w hw hs (bounds_i64 wn).1 (bounds_i64 wn).2
end Go.Proofs.YtnapebgkcjnnbaaDoor
