/-
  DecInts, walked: true, whatever the numbers. Condition: the library's variables as it lays them.
-/
import Derived.Test.YtkdejdmmgjibmaaDoorDecNum2
import Derived.Test.YtkdejdmmgjibmaaDoorDecAwake
import Derived.Lib.ItoaLen
namespace Go.Proofs.YtkdejdmmgjibmaaDoor
open Go.RowKit
set_option linter.unusedVariables false
set_option linter.unusedSimpArgs false
set_option maxRecDepth 100000 in
set_option maxHeartbeats 4000000 in
theorem ints_lt (a b : Int) (ha1 : -9223372036854775808 ≤ a) (ha2 : a ≤ 9223372036854775807) (hb1 : -9223372036854775808 ≤ b) (hb2 : b ≤ 9223372036854775807) (hab : a < b) (w : World) (hw : Vars w)
    (S T A B C D : ByteArray) (s1 : (⟨(Lib.itoa a).toArray⟩ : ByteArray) = S) (t1 : (⟨(Lib.itoa b).toArray⟩ : ByteArray) = T) (hS : S.size ≤ 30) (i1 : intN S.data.toList = some a) (g1 : goodN S.data.toList = true) (v1 : wholeN S.data.toList = true)
    (hA : S ++ (⟨#[46, 48, 48]⟩ : ByteArray) = A) (hB : S ++ (⟨#[101, 48]⟩ : ByteArray) = B) (hC : S ++ (⟨#[46, 53, 101, 49]⟩ : ByteArray) = C) (hD : S ++ (⟨#[46, 53, 69, 43, 49]⟩ : ByteArray) = D)
    (x1 : cmpN S.data.toList T.data.toList = -1) (x2 : cmpN S.data.toList A.data.toList = 0) (x3 : cmpN B.data.toList S.data.toList = 0) (x4 : cmpN C.data.toList D.data.toList = 0) :
    Calls Tryd.prog 6 #[.int .i64 a, .int .i64 b] w fun e w' => e = .returned (.bool true) ∧ Below w.heap.size w w' := by
  have HV := Lib.hid hw
  have hbb := Lib.hid (Below.refl w.heap.size w)
  have S1 := Lib.hid s1
  have T1 := Lib.hid t1
  have I1 := Lib.hid i1
  have G1 := Lib.hid g1
  have W1 := Lib.hid v1
  have X1 := Lib.hid x1
  have X2 := Lib.hid x2
  have X3 := Lib.hid x3
  have X4 := Lib.hid x4
  clear hw s1 t1 i1 g1 v1 x1 x2 x3 x4
  skip
  go_enter Tryd.func6, Tryd.ntmps6
  go_wp2_with (first | (go_at_call 9; refine (awake_any _ (HV.out.step hbb.out)).mono ?_; rintro e w1 ⟨rfl, hb1⟩; have hbb0 := hbb; clear hbb; have hbb := Lib.hid (below_then hbb0.out hbb0.out.size hb1); clear hb1 hbb0) | (go_at_call 20; refine (text_any _ _ (by omega) (by omega) (HV.out.step hbb.out).tab).mono ?_; rintro e w1 ⟨rfl, hb1⟩; (first | rw [S1.out] | rw [T1.out]); have hbb0 := hbb; clear hbb; have hbb := Lib.hid (below_then hbb0.out hbb0.out.size hb1); clear hb1 hbb0) | (go_at_call 10; refine (int_vars _ _ (HV.out.step hbb.out)).mono ?_; rintro e w1 ⟨rfl, hb1⟩; rw [I1.out]; have hbb0 := hbb; clear hbb; have hbb := Lib.hid (below_then hbb0.out hbb0.out.size hb1); clear hb1 hbb0) | (go_at_call 12; refine (good_any _ _).mono ?_; rintro e w1 ⟨rfl, hb1⟩; rw [G1.out]; have hbb0 := hbb; clear hbb; have hbb := Lib.hid (below_then hbb0.out hbb0.out.size hb1); clear hb1 hbb0) | (go_at_call 17; refine (whole_any _ _).mono ?_; rintro e w1 ⟨rfl, hb1⟩; rw [W1.out]; have hbb0 := hbb; clear hbb; have hbb := Lib.hid (below_then hbb0.out hbb0.out.size hb1); clear hb1 hbb0) | (go_at_call 13; refine (cmp_any _ _ _).mono ?_; rintro e w1 ⟨rfl, hb1⟩; (first | rw [X1.out] | rw [X2.out] | rw [X3.out] | rw [X4.out]); have hbb0 := hbb; clear hbb; have hbb := Lib.hid (below_then hbb0.out hbb0.out.size hb1); clear hb1 hbb0))
  all_goals (go_ret; exact ⟨rfl, hbb.out⟩)
set_option maxRecDepth 100000 in
set_option maxHeartbeats 4000000 in
theorem ints_gt (a b : Int) (ha1 : -9223372036854775808 ≤ a) (ha2 : a ≤ 9223372036854775807) (hb1 : -9223372036854775808 ≤ b) (hb2 : b ≤ 9223372036854775807) (hab : b < a) (w : World) (hw : Vars w)
    (S T A B C D : ByteArray) (s1 : (⟨(Lib.itoa a).toArray⟩ : ByteArray) = S) (t1 : (⟨(Lib.itoa b).toArray⟩ : ByteArray) = T) (hS : S.size ≤ 30) (i1 : intN S.data.toList = some a) (g1 : goodN S.data.toList = true) (v1 : wholeN S.data.toList = true)
    (hA : S ++ (⟨#[46, 48, 48]⟩ : ByteArray) = A) (hB : S ++ (⟨#[101, 48]⟩ : ByteArray) = B) (hC : S ++ (⟨#[46, 53, 101, 49]⟩ : ByteArray) = C) (hD : S ++ (⟨#[46, 53, 69, 43, 49]⟩ : ByteArray) = D)
    (x1 : cmpN S.data.toList T.data.toList = 1) (x2 : cmpN S.data.toList A.data.toList = 0) (x3 : cmpN B.data.toList S.data.toList = 0) (x4 : cmpN C.data.toList D.data.toList = 0) :
    Calls Tryd.prog 6 #[.int .i64 a, .int .i64 b] w fun e w' => e = .returned (.bool true) ∧ Below w.heap.size w w' := by
  have HV := Lib.hid hw
  have hbb := Lib.hid (Below.refl w.heap.size w)
  have S1 := Lib.hid s1
  have T1 := Lib.hid t1
  have I1 := Lib.hid i1
  have G1 := Lib.hid g1
  have W1 := Lib.hid v1
  have X1 := Lib.hid x1
  have X2 := Lib.hid x2
  have X3 := Lib.hid x3
  have X4 := Lib.hid x4
  clear hw s1 t1 i1 g1 v1 x1 x2 x3 x4
  skip
  go_enter Tryd.func6, Tryd.ntmps6
  go_wp2_with (first | (go_at_call 9; refine (awake_any _ (HV.out.step hbb.out)).mono ?_; rintro e w1 ⟨rfl, hb1⟩; have hbb0 := hbb; clear hbb; have hbb := Lib.hid (below_then hbb0.out hbb0.out.size hb1); clear hb1 hbb0) | (go_at_call 20; refine (text_any _ _ (by omega) (by omega) (HV.out.step hbb.out).tab).mono ?_; rintro e w1 ⟨rfl, hb1⟩; (first | rw [S1.out] | rw [T1.out]); have hbb0 := hbb; clear hbb; have hbb := Lib.hid (below_then hbb0.out hbb0.out.size hb1); clear hb1 hbb0) | (go_at_call 10; refine (int_vars _ _ (HV.out.step hbb.out)).mono ?_; rintro e w1 ⟨rfl, hb1⟩; rw [I1.out]; have hbb0 := hbb; clear hbb; have hbb := Lib.hid (below_then hbb0.out hbb0.out.size hb1); clear hb1 hbb0) | (go_at_call 12; refine (good_any _ _).mono ?_; rintro e w1 ⟨rfl, hb1⟩; rw [G1.out]; have hbb0 := hbb; clear hbb; have hbb := Lib.hid (below_then hbb0.out hbb0.out.size hb1); clear hb1 hbb0) | (go_at_call 17; refine (whole_any _ _).mono ?_; rintro e w1 ⟨rfl, hb1⟩; rw [W1.out]; have hbb0 := hbb; clear hbb; have hbb := Lib.hid (below_then hbb0.out hbb0.out.size hb1); clear hb1 hbb0) | (go_at_call 13; refine (cmp_any _ _ _).mono ?_; rintro e w1 ⟨rfl, hb1⟩; (first | rw [X1.out] | rw [X2.out] | rw [X3.out] | rw [X4.out]); have hbb0 := hbb; clear hbb; have hbb := Lib.hid (below_then hbb0.out hbb0.out.size hb1); clear hb1 hbb0))
  all_goals (go_ret; exact ⟨rfl, hbb.out⟩)
set_option maxRecDepth 100000 in
set_option maxHeartbeats 4000000 in
theorem ints_eq (a b : Int) (ha1 : -9223372036854775808 ≤ a) (ha2 : a ≤ 9223372036854775807) (hb1 : -9223372036854775808 ≤ b) (hb2 : b ≤ 9223372036854775807) (hab : b = a) (w : World) (hw : Vars w)
    (S T A B C D : ByteArray) (s1 : (⟨(Lib.itoa a).toArray⟩ : ByteArray) = S) (t1 : (⟨(Lib.itoa b).toArray⟩ : ByteArray) = T) (hS : S.size ≤ 30) (i1 : intN S.data.toList = some a) (g1 : goodN S.data.toList = true) (v1 : wholeN S.data.toList = true)
    (hA : S ++ (⟨#[46, 48, 48]⟩ : ByteArray) = A) (hB : S ++ (⟨#[101, 48]⟩ : ByteArray) = B) (hC : S ++ (⟨#[46, 53, 101, 49]⟩ : ByteArray) = C) (hD : S ++ (⟨#[46, 53, 69, 43, 49]⟩ : ByteArray) = D)
    (x1 : cmpN S.data.toList T.data.toList = 0) (x2 : cmpN S.data.toList A.data.toList = 0) (x3 : cmpN B.data.toList S.data.toList = 0) (x4 : cmpN C.data.toList D.data.toList = 0) :
    Calls Tryd.prog 6 #[.int .i64 a, .int .i64 b] w fun e w' => e = .returned (.bool true) ∧ Below w.heap.size w w' := by
  have HV := Lib.hid hw
  have hbb := Lib.hid (Below.refl w.heap.size w)
  have S1 := Lib.hid s1
  have T1 := Lib.hid t1
  have I1 := Lib.hid i1
  have G1 := Lib.hid g1
  have W1 := Lib.hid v1
  have X1 := Lib.hid x1
  have X2 := Lib.hid x2
  have X3 := Lib.hid x3
  have X4 := Lib.hid x4
  clear hw s1 t1 i1 g1 v1 x1 x2 x3 x4
  subst hab; obtain rfl := S1.out.symm.trans T1.out
  go_enter Tryd.func6, Tryd.ntmps6
  go_wp2_with (first | (go_at_call 9; refine (awake_any _ (HV.out.step hbb.out)).mono ?_; rintro e w1 ⟨rfl, hb1⟩; have hbb0 := hbb; clear hbb; have hbb := Lib.hid (below_then hbb0.out hbb0.out.size hb1); clear hb1 hbb0) | (go_at_call 20; refine (text_any _ _ (by omega) (by omega) (HV.out.step hbb.out).tab).mono ?_; rintro e w1 ⟨rfl, hb1⟩; (first | rw [S1.out] | rw [T1.out]); have hbb0 := hbb; clear hbb; have hbb := Lib.hid (below_then hbb0.out hbb0.out.size hb1); clear hb1 hbb0) | (go_at_call 10; refine (int_vars _ _ (HV.out.step hbb.out)).mono ?_; rintro e w1 ⟨rfl, hb1⟩; rw [I1.out]; have hbb0 := hbb; clear hbb; have hbb := Lib.hid (below_then hbb0.out hbb0.out.size hb1); clear hb1 hbb0) | (go_at_call 12; refine (good_any _ _).mono ?_; rintro e w1 ⟨rfl, hb1⟩; rw [G1.out]; have hbb0 := hbb; clear hbb; have hbb := Lib.hid (below_then hbb0.out hbb0.out.size hb1); clear hb1 hbb0) | (go_at_call 17; refine (whole_any _ _).mono ?_; rintro e w1 ⟨rfl, hb1⟩; rw [W1.out]; have hbb0 := hbb; clear hbb; have hbb := Lib.hid (below_then hbb0.out hbb0.out.size hb1); clear hb1 hbb0) | (go_at_call 13; refine (cmp_any _ _ _).mono ?_; rintro e w1 ⟨rfl, hb1⟩; (first | rw [X1.out] | rw [X2.out] | rw [X3.out] | rw [X4.out]); have hbb0 := hbb; clear hbb; have hbb := Lib.hid (below_then hbb0.out hbb0.out.size hb1); clear hb1 hbb0))
  all_goals (go_ret; exact ⟨rfl, hbb.out⟩)
theorem itoa_short (n : Int) (h0 : -9223372036854775808 ≤ n) (h1 : n ≤ 9223372036854775807) : (Lib.itoa n).length ≤ 21 ∧ (numD n).length ≤ 300 := by
  have h := Lib.itoa_length_le n h0 h1
  refine ⟨h, ?_⟩
  rw [itoa_is, List.length_append] at h
  show (Lib.decDigits n.natAbs).length ≤ 300
  omega
theorem ints_walk (a b : Int) (w : World) (hw : Vars w) (wa : (Lit.int .i64 a).wf = true) (wb : (Lit.int .i64 b).wf = true) : Calls Tryd.prog 6 #[.int .i64 a, .int .i64 b] w fun e w' => e = .returned (.bool true) ∧ Below w.heap.size w w' := by
  obtain ⟨ha1, ha2⟩ := bounds_i64 wa
  obtain ⟨hb1, hb2⟩ := bounds_i64 wb
  obtain ⟨la, na⟩ := itoa_short a ha1 ha2
  obtain ⟨lb, nb⟩ := itoa_short b hb1 hb2
  obtain ⟨S, hS⟩ : ∃ S : ByteArray, (⟨(Lib.itoa a).toArray⟩ : ByteArray) = S := ⟨_, rfl⟩
  obtain ⟨T, hT⟩ : ∃ T : ByteArray, (⟨(Lib.itoa b).toArray⟩ : ByteArray) = T := ⟨_, rfl⟩
  have eS : S.data.toList = Lib.itoa a := by rw [← hS]
  have eT : T.data.toList = Lib.itoa b := by rw [← hT]
  have zS : S.size ≤ 30 := by rw [Lib.size_eq, eS]; omega
  have i1 : intN S.data.toList = some a := by rw [eS]; exact int_itoa ha1 ha2 na
  have g1 : goodN S.data.toList = true := by rw [eS]; unfold goodN; rw [parse_itoa na]; rfl
  have v1 : wholeN S.data.toList = true := by rw [eS]; exact whole_itoa na
  have x0 : cmpN S.data.toList T.data.toList = Lib.compareInt a b := by
    rw [eS, eT]; unfold cmpN; rw [parse_itoa na, parse_itoa nb]; exact cmp_num a b
  have app : ∀ l : List UInt8, (S ++ (⟨l.toArray⟩ : ByteArray)).data.toList = Lib.itoa a ++ l := fun l => by rw [ba_append, eS]
  have x2 : cmpN S.data.toList (S ++ (⟨#[46, 48, 48]⟩ : ByteArray)).data.toList = 0 := cmp_same (by rw [show (S ++ (⟨#[46, 48, 48]⟩ : ByteArray)).data.toList = Lib.itoa a ++ [46, 48, 48] from app _, eS, parse_itoa na, parse_00 na])
  have x3 : cmpN (S ++ (⟨#[101, 48]⟩ : ByteArray)).data.toList S.data.toList = 0 := cmp_same (by rw [show (S ++ (⟨#[101, 48]⟩ : ByteArray)).data.toList = Lib.itoa a ++ [101, 48] from app _, eS, parse_itoa na, parse_e0 na])
  have x4 : cmpN (S ++ (⟨#[46, 53, 101, 49]⟩ : ByteArray)).data.toList (S ++ (⟨#[46, 53, 69, 43, 49]⟩ : ByteArray)).data.toList = 0 := cmp_same (by
    rw [show (S ++ (⟨#[46, 53, 101, 49]⟩ : ByteArray)).data.toList = Lib.itoa a ++ [46, 53, 101, 49] from app _, show (S ++ (⟨#[46, 53, 69, 43, 49]⟩ : ByteArray)).data.toList = Lib.itoa a ++ [46, 53, 69, 43, 49] from app _]
    exact parse_5 na)
  rcases Int.lt_trichotomy a b with h | h | h
  · exact ints_lt a b ha1 ha2 hb1 hb2 h w hw S T _ _ _ _ hS hT zS i1 g1 v1 rfl rfl rfl rfl (by rw [x0]; exact ci_lt h) x2 x3 x4
  · exact ints_eq a b ha1 ha2 hb1 hb2 h.symm w hw S T _ _ _ _ hS hT zS i1 g1 v1 rfl rfl rfl rfl (by rw [x0, h]; exact ci_self b) x2 x3 x4
  · exact ints_gt a b ha1 ha2 hb1 hb2 h w hw S T _ _ _ _ hS hT zS i1 g1 v1 rfl rfl rfl rfl (by rw [x0]; exact ci_gt h) x2 x3 x4
end Go.Proofs.YtkdejdmmgjibmaaDoor
