/-
  The reference's Canon, walked: just dec's one form. Condition: a text of at most 1000 bytes.
-/
import Derived.Test.YtkdejdmmgjibmaaDoorRefText
namespace Go.Proofs.YtkdejdmmgjibmaaDoor
open Go.RowKit
set_option linter.unusedVariables false
set_option linter.unusedSimpArgs false
set_option maxHeartbeats 1000000 in
theorem rcanon_none (s : ByteArray) (w : World) (hs : s.size ≤ 1000) (hg : goodN s.data.toList = false) : Calls Tryd.prog 14 #[.string s] w fun e w' => e = .returned (.tuple #[.string ⟨#[]⟩, .bool false]) ∧ Below w.heap.size w w' := by
  have HG := Lib.hid hg
  clear hg
  go_enter Tryd.func14, Tryd.ntmps14
  go_wp2_with (go_at_call 16; refine (number_any _ _ hs).mono ?_; rintro e w1 ⟨rfl, hw⟩; rw [hw, HG.out]; clear hw)
  go_ret2
  exact ⟨rfl, Below.refl _ _⟩
set_option maxHeartbeats 1000000 in
theorem rcanon_zero (s : ByteArray) (w : World) (hs : s.size ≤ 1000) (hg : goodN s.data.toList = true) (b : Bool) (p : Int) (hc : ∀ V, Calls Tryd.prog 29 #[.string s] V fun e w' => e = .returned (.tuple #[.bool b, .string ⟨#[]⟩, .int .i64 p]) ∧ w' = V) : Calls Tryd.prog 14 #[.string s] w fun e w' => e = .returned (.tuple #[.string ⟨#[48]⟩, .bool true]) ∧ Below w.heap.size w w' := by
  have HG := Lib.hid hg
  have HC := Lib.hid hc
  clear hg hc
  go_enter Tryd.func14, Tryd.ntmps14
  go_wp2_with (first | (go_at_call 16; refine (number_any _ _ hs).mono ?_; rintro e w1 ⟨rfl, hw⟩; rw [hw, HG.out]; clear hw) | (go_at_call 29; refine (HC.out _).mono ?_; rintro e w1 ⟨rfl, hw⟩; rw [hw]; clear hw))
  go_ret2
  exact ⟨rfl, Below.refl _ _⟩
set_option maxRecDepth 100000 in
  set_option maxHeartbeats 1000000 in
  theorem rcanon_f10 (s : ByteArray) (w : World) (hs : s.size ≤ 1000) (hg : goodN s.data.toList = true) (T : ByteArray) (p : Int) (hc : ∀ V, Calls Tryd.prog 29 #[.string s] V fun e w' => e = .returned (.tuple #[.bool false, .string T, .int .i64 p]) ∧ w' = V) (hT : ¬ T.toList = []) (hT0 : 0 < T.size) (hTs : T.size ≤ 800) (hp1 : -101000 ≤ p) (hp2 : p ≤ 101000)
      (I : ByteArray) (hI : (⟨(Lib.itoa p).toArray⟩ : ByteArray) = I) (hIs : I.size ≤ 100) (A B : ByteArray) (hA : T.extract 0 1 = A) (hA1 : A.size ≤ 1) (hB : T.extract 1 T.size = B) (hBs : B.size ≤ 800) (h1 : (T.size : Int) = 1) (h2 : p = 0) :
      Calls Tryd.prog 14 #[.string s] w fun e w' => e = .returned (.tuple #[.string (A), .bool true]) ∧ Below w.heap.size w w' := by
    have HG := Lib.hid hg
    have HC := Lib.hid hc
    have HI := Lib.hid hI
    have hie : T.toList.isEmpty = false := by simp [hT]
    clear hg hc hI
    go_enter Tryd.func14, Tryd.ntmps14
    go_wp2_with (first | (go_at_call 16; refine (number_any _ _ hs).mono ?_; rintro e w1 ⟨rfl, hw⟩; rw [hw, HG.out]; clear hw) | (go_at_call 29; refine (HC.out _).mono ?_; rintro e w1 ⟨rfl, hw⟩; rw [hw]; clear hw) | (go_at_call 21; refine (rtext_any _ _ (by omega) (by omega)).mono ?_; rintro e w4 ⟨rfl, hb4⟩; rw [HI.out]; have HB := Lib.hid hb4; clear hb4))
    go_ret2
    refine ⟨?_, by first | exact HB.out | exact Below.refl _ _⟩
    rfl
set_option maxRecDepth 100000 in
set_option maxHeartbeats 1000000 in
theorem rcanon_t10 (s : ByteArray) (w : World) (hs : s.size ≤ 1000) (hg : goodN s.data.toList = true) (T : ByteArray) (p : Int) (hc : ∀ V, Calls Tryd.prog 29 #[.string s] V fun e w' => e = .returned (.tuple #[.bool true, .string T, .int .i64 p]) ∧ w' = V) (hT : ¬ T.toList = []) (hT0 : 0 < T.size) (hTs : T.size ≤ 800) (hp1 : -101000 ≤ p) (hp2 : p ≤ 101000)
    (I : ByteArray) (hI : (⟨(Lib.itoa p).toArray⟩ : ByteArray) = I) (hIs : I.size ≤ 100) (A B : ByteArray) (hA : T.extract 0 1 = A) (hA1 : A.size ≤ 1) (hB : T.extract 1 T.size = B) (hBs : B.size ≤ 800) (h1 : (T.size : Int) = 1) (h2 : p = 0) :
    Calls Tryd.prog 14 #[.string s] w fun e w' => e = .returned (.tuple #[.string (⟨#[45]⟩ ++ A), .bool true]) ∧ Below w.heap.size w w' := by
  have HG := Lib.hid hg
  have HC := Lib.hid hc
  have HI := Lib.hid hI
  have hie : T.toList.isEmpty = false := by simp [hT]
  clear hg hc hI
  go_enter Tryd.func14, Tryd.ntmps14
  go_wp2_with (first | (go_at_call 16; refine (number_any _ _ hs).mono ?_; rintro e w1 ⟨rfl, hw⟩; rw [hw, HG.out]; clear hw) | (go_at_call 29; refine (HC.out _).mono ?_; rintro e w1 ⟨rfl, hw⟩; rw [hw]; clear hw) | (go_at_call 21; refine (rtext_any _ _ (by omega) (by omega)).mono ?_; rintro e w4 ⟨rfl, hb4⟩; rw [HI.out]; have HB := Lib.hid hb4; clear hb4))
  go_ret2
  refine ⟨?_, by first | exact HB.out | exact Below.refl _ _⟩
  rfl
set_option maxRecDepth 100000 in
set_option maxHeartbeats 1000000 in
theorem rcanon_fn0 (s : ByteArray) (w : World) (hs : s.size ≤ 1000) (hg : goodN s.data.toList = true) (T : ByteArray) (p : Int) (hc : ∀ V, Calls Tryd.prog 29 #[.string s] V fun e w' => e = .returned (.tuple #[.bool false, .string T, .int .i64 p]) ∧ w' = V) (hT : ¬ T.toList = []) (hT0 : 0 < T.size) (hTs : T.size ≤ 800) (hp1 : -101000 ≤ p) (hp2 : p ≤ 101000)
    (I : ByteArray) (hI : (⟨(Lib.itoa p).toArray⟩ : ByteArray) = I) (hIs : I.size ≤ 100) (A B : ByteArray) (hA : T.extract 0 1 = A) (hA1 : A.size ≤ 1) (hB : T.extract 1 T.size = B) (hBs : B.size ≤ 800) (h1 : 1 < (T.size : Int)) (h2 : p = 0) :
    Calls Tryd.prog 14 #[.string s] w fun e w' => e = .returned (.tuple #[.string (A ++ ⟨#[46]⟩ ++ B), .bool true]) ∧ Below w.heap.size w w' := by
  have HG := Lib.hid hg
  have HC := Lib.hid hc
  have HI := Lib.hid hI
  have hie : T.toList.isEmpty = false := by simp [hT]
  clear hg hc hI
  go_enter Tryd.func14, Tryd.ntmps14
  go_wp2_with (first | (go_at_call 16; refine (number_any _ _ hs).mono ?_; rintro e w1 ⟨rfl, hw⟩; rw [hw, HG.out]; clear hw) | (go_at_call 29; refine (HC.out _).mono ?_; rintro e w1 ⟨rfl, hw⟩; rw [hw]; clear hw) | (go_at_call 21; refine (rtext_any _ _ (by omega) (by omega)).mono ?_; rintro e w4 ⟨rfl, hb4⟩; rw [HI.out]; have HB := Lib.hid hb4; clear hb4))
  go_ret2
  refine ⟨?_, by first | exact HB.out | exact Below.refl _ _⟩
  rfl
set_option maxRecDepth 100000 in
set_option maxHeartbeats 1000000 in
theorem rcanon_tn0 (s : ByteArray) (w : World) (hs : s.size ≤ 1000) (hg : goodN s.data.toList = true) (T : ByteArray) (p : Int) (hc : ∀ V, Calls Tryd.prog 29 #[.string s] V fun e w' => e = .returned (.tuple #[.bool true, .string T, .int .i64 p]) ∧ w' = V) (hT : ¬ T.toList = []) (hT0 : 0 < T.size) (hTs : T.size ≤ 800) (hp1 : -101000 ≤ p) (hp2 : p ≤ 101000)
    (I : ByteArray) (hI : (⟨(Lib.itoa p).toArray⟩ : ByteArray) = I) (hIs : I.size ≤ 100) (A B : ByteArray) (hA : T.extract 0 1 = A) (hA1 : A.size ≤ 1) (hB : T.extract 1 T.size = B) (hBs : B.size ≤ 800) (h1 : 1 < (T.size : Int)) (h2 : p = 0) :
    Calls Tryd.prog 14 #[.string s] w fun e w' => e = .returned (.tuple #[.string (⟨#[45]⟩ ++ (A ++ ⟨#[46]⟩ ++ B)), .bool true]) ∧ Below w.heap.size w w' := by
  have HG := Lib.hid hg
  have HC := Lib.hid hc
  have HI := Lib.hid hI
  have hie : T.toList.isEmpty = false := by simp [hT]
  clear hg hc hI
  go_enter Tryd.func14, Tryd.ntmps14
  go_wp2_with (first | (go_at_call 16; refine (number_any _ _ hs).mono ?_; rintro e w1 ⟨rfl, hw⟩; rw [hw, HG.out]; clear hw) | (go_at_call 29; refine (HC.out _).mono ?_; rintro e w1 ⟨rfl, hw⟩; rw [hw]; clear hw) | (go_at_call 21; refine (rtext_any _ _ (by omega) (by omega)).mono ?_; rintro e w4 ⟨rfl, hb4⟩; rw [HI.out]; have HB := Lib.hid hb4; clear hb4))
  go_ret2
  refine ⟨?_, by first | exact HB.out | exact Below.refl _ _⟩
  rfl
set_option maxRecDepth 100000 in
set_option maxHeartbeats 1000000 in
theorem rcanon_f1p (s : ByteArray) (w : World) (hs : s.size ≤ 1000) (hg : goodN s.data.toList = true) (T : ByteArray) (p : Int) (hc : ∀ V, Calls Tryd.prog 29 #[.string s] V fun e w' => e = .returned (.tuple #[.bool false, .string T, .int .i64 p]) ∧ w' = V) (hT : ¬ T.toList = []) (hT0 : 0 < T.size) (hTs : T.size ≤ 800) (hp1 : -101000 ≤ p) (hp2 : p ≤ 101000)
    (I : ByteArray) (hI : (⟨(Lib.itoa p).toArray⟩ : ByteArray) = I) (hIs : I.size ≤ 100) (A B : ByteArray) (hA : T.extract 0 1 = A) (hA1 : A.size ≤ 1) (hB : T.extract 1 T.size = B) (hBs : B.size ≤ 800) (h1 : (T.size : Int) = 1) (h2 : ¬ p = 0) :
    Calls Tryd.prog 14 #[.string s] w fun e w' => e = .returned (.tuple #[.string (A ++ ⟨#[101]⟩ ++ I), .bool true]) ∧ Below w.heap.size w w' := by
  have HG := Lib.hid hg
  have HC := Lib.hid hc
  have HI := Lib.hid hI
  have hie : T.toList.isEmpty = false := by simp [hT]
  clear hg hc hI
  go_enter Tryd.func14, Tryd.ntmps14
  go_wp2_with (first | (go_at_call 16; refine (number_any _ _ hs).mono ?_; rintro e w1 ⟨rfl, hw⟩; rw [hw, HG.out]; clear hw) | (go_at_call 29; refine (HC.out _).mono ?_; rintro e w1 ⟨rfl, hw⟩; rw [hw]; clear hw) | (go_at_call 21; refine (rtext_any _ _ (by omega) (by omega)).mono ?_; rintro e w4 ⟨rfl, hb4⟩; rw [HI.out]; have HB := Lib.hid hb4; clear hb4))
  go_ret2
  refine ⟨?_, by first | exact HB.out | exact Below.refl _ _⟩
  rfl
set_option maxRecDepth 100000 in
set_option maxHeartbeats 1000000 in
theorem rcanon_t1p (s : ByteArray) (w : World) (hs : s.size ≤ 1000) (hg : goodN s.data.toList = true) (T : ByteArray) (p : Int) (hc : ∀ V, Calls Tryd.prog 29 #[.string s] V fun e w' => e = .returned (.tuple #[.bool true, .string T, .int .i64 p]) ∧ w' = V) (hT : ¬ T.toList = []) (hT0 : 0 < T.size) (hTs : T.size ≤ 800) (hp1 : -101000 ≤ p) (hp2 : p ≤ 101000)
    (I : ByteArray) (hI : (⟨(Lib.itoa p).toArray⟩ : ByteArray) = I) (hIs : I.size ≤ 100) (A B : ByteArray) (hA : T.extract 0 1 = A) (hA1 : A.size ≤ 1) (hB : T.extract 1 T.size = B) (hBs : B.size ≤ 800) (h1 : (T.size : Int) = 1) (h2 : ¬ p = 0) :
    Calls Tryd.prog 14 #[.string s] w fun e w' => e = .returned (.tuple #[.string (⟨#[45]⟩ ++ A ++ ⟨#[101]⟩ ++ I), .bool true]) ∧ Below w.heap.size w w' := by
  have HG := Lib.hid hg
  have HC := Lib.hid hc
  have HI := Lib.hid hI
  have hie : T.toList.isEmpty = false := by simp [hT]
  clear hg hc hI
  go_enter Tryd.func14, Tryd.ntmps14
  go_wp2_with (first | (go_at_call 16; refine (number_any _ _ hs).mono ?_; rintro e w1 ⟨rfl, hw⟩; rw [hw, HG.out]; clear hw) | (go_at_call 29; refine (HC.out _).mono ?_; rintro e w1 ⟨rfl, hw⟩; rw [hw]; clear hw) | (go_at_call 21; refine (rtext_any _ _ (by omega) (by omega)).mono ?_; rintro e w4 ⟨rfl, hb4⟩; rw [HI.out]; have HB := Lib.hid hb4; clear hb4))
  go_ret2
  refine ⟨?_, by first | exact HB.out | exact Below.refl _ _⟩
  rfl
set_option maxRecDepth 100000 in
set_option maxHeartbeats 1000000 in
theorem rcanon_fnp (s : ByteArray) (w : World) (hs : s.size ≤ 1000) (hg : goodN s.data.toList = true) (T : ByteArray) (p : Int) (hc : ∀ V, Calls Tryd.prog 29 #[.string s] V fun e w' => e = .returned (.tuple #[.bool false, .string T, .int .i64 p]) ∧ w' = V) (hT : ¬ T.toList = []) (hT0 : 0 < T.size) (hTs : T.size ≤ 800) (hp1 : -101000 ≤ p) (hp2 : p ≤ 101000)
    (I : ByteArray) (hI : (⟨(Lib.itoa p).toArray⟩ : ByteArray) = I) (hIs : I.size ≤ 100) (A B : ByteArray) (hA : T.extract 0 1 = A) (hA1 : A.size ≤ 1) (hB : T.extract 1 T.size = B) (hBs : B.size ≤ 800) (h1 : 1 < (T.size : Int)) (h2 : ¬ p = 0) :
    Calls Tryd.prog 14 #[.string s] w fun e w' => e = .returned (.tuple #[.string (A ++ ⟨#[46]⟩ ++ B ++ ⟨#[101]⟩ ++ I), .bool true]) ∧ Below w.heap.size w w' := by
  have HG := Lib.hid hg
  have HC := Lib.hid hc
  have HI := Lib.hid hI
  have hie : T.toList.isEmpty = false := by simp [hT]
  clear hg hc hI
  go_enter Tryd.func14, Tryd.ntmps14
  go_wp2_with (first | (go_at_call 16; refine (number_any _ _ hs).mono ?_; rintro e w1 ⟨rfl, hw⟩; rw [hw, HG.out]; clear hw) | (go_at_call 29; refine (HC.out _).mono ?_; rintro e w1 ⟨rfl, hw⟩; rw [hw]; clear hw) | (go_at_call 21; refine (rtext_any _ _ (by omega) (by omega)).mono ?_; rintro e w4 ⟨rfl, hb4⟩; rw [HI.out]; have HB := Lib.hid hb4; clear hb4))
  go_ret2
  refine ⟨?_, by first | exact HB.out | exact Below.refl _ _⟩
  rfl
set_option maxRecDepth 100000 in
set_option maxHeartbeats 1000000 in
theorem rcanon_tnp (s : ByteArray) (w : World) (hs : s.size ≤ 1000) (hg : goodN s.data.toList = true) (T : ByteArray) (p : Int) (hc : ∀ V, Calls Tryd.prog 29 #[.string s] V fun e w' => e = .returned (.tuple #[.bool true, .string T, .int .i64 p]) ∧ w' = V) (hT : ¬ T.toList = []) (hT0 : 0 < T.size) (hTs : T.size ≤ 800) (hp1 : -101000 ≤ p) (hp2 : p ≤ 101000)
    (I : ByteArray) (hI : (⟨(Lib.itoa p).toArray⟩ : ByteArray) = I) (hIs : I.size ≤ 100) (A B : ByteArray) (hA : T.extract 0 1 = A) (hA1 : A.size ≤ 1) (hB : T.extract 1 T.size = B) (hBs : B.size ≤ 800) (h1 : 1 < (T.size : Int)) (h2 : ¬ p = 0) :
    Calls Tryd.prog 14 #[.string s] w fun e w' => e = .returned (.tuple #[.string (⟨#[45]⟩ ++ (A ++ ⟨#[46]⟩ ++ B) ++ ⟨#[101]⟩ ++ I), .bool true]) ∧ Below w.heap.size w w' := by
  have HG := Lib.hid hg
  have HC := Lib.hid hc
  have HI := Lib.hid hI
  have hie : T.toList.isEmpty = false := by simp [hT]
  clear hg hc hI
  go_enter Tryd.func14, Tryd.ntmps14
  go_wp2_with (first | (go_at_call 16; refine (number_any _ _ hs).mono ?_; rintro e w1 ⟨rfl, hw⟩; rw [hw, HG.out]; clear hw) | (go_at_call 29; refine (HC.out _).mono ?_; rintro e w1 ⟨rfl, hw⟩; rw [hw]; clear hw) | (go_at_call 21; refine (rtext_any _ _ (by omega) (by omega)).mono ?_; rintro e w4 ⟨rfl, hb4⟩; rw [HI.out]; have HB := Lib.hid hb4; clear hb4))
  go_ret2
  refine ⟨?_, by first | exact HB.out | exact Below.refl _ _⟩
  rfl
theorem rcanon_any (s : ByteArray) (w : World) (hs : s.size ≤ 1000) : Calls Tryd.prog 14 #[.string s] w fun e w' => e = .returned (.tuple #[.string ⟨(canonS s.data.toList).1.toArray⟩, .bool (canonS s.data.toList).2]) ∧ Below w.heap.size w w' := by
  unfold canonS
  cases hp0 : parseN s.data.toList with
  | none => exact rcanon_none s w hs (by unfold goodN; rw [hp0]; rfl)
  | some x =>
    have hg : goodN s.data.toList = true := by unfold goodN; rw [hp0]; rfl
    have hc := fun V => scaled_good s V x hp0
    obtain ⟨b, D, p⟩ := x
    have hsh := parse_shape hp0
    have hlo := hsh.lo; have hhi := hsh.hi; have hlen := hsh.len
    simp only at hlo hhi hlen
    by_cases hD : D = []
    · subst hD
      have : canonN (b, [], p) = [48] := by unfold canonN; rw [if_pos rfl]
      show Calls _ _ _ _ fun e w' => e = .returned (.tuple #[.string ⟨(canonN (b, [], p)).toArray⟩, .bool true]) ∧ _
      rw [this]
      exact rcanon_zero s w hs hg b p hc
    · obtain ⟨T, hT⟩ : ∃ T : ByteArray, (⟨D.toArray⟩ : ByteArray) = T := ⟨_, rfl⟩
      simp only [hT] at hc
      have hTl : T.data.toList = D := by rw [← hT]
      have hTn : T.size = D.length := by rw [Lib.size_eq, hTl]
      have h0 : 0 < T.size := by rw [hTn]; exact List.length_pos_iff.2 hD
      have hne : ¬ T.toList = [] := by rw [Lib.toList_data, hTl]; exact hD
      obtain ⟨I, hI⟩ : ∃ I : ByteArray, (⟨(Lib.itoa p).toArray⟩ : ByteArray) = I := ⟨_, rfl⟩
      have hIl : I.data.toList = Lib.itoa p := by rw [← hI]
      have hIs : I.size ≤ 100 := by rw [Lib.size_eq, hIl]; exact Nat.le_trans (Lib.itoa_length_le p (by omega) (by omega)) (by omega)
      obtain ⟨A, hA⟩ : ∃ A, T.extract 0 1 = A := ⟨_, rfl⟩
      obtain ⟨B, hB⟩ : ∃ B, T.extract 1 T.size = B := ⟨_, rfl⟩
      have hAl : A.data.toList = D.take 1 := by rw [← hA, Lib.extract_data, hTl]; rfl
      have hBl : B.data.toList = D.drop 1 := by rw [← hB, extract1, hTl]
      have hA1 : A.size ≤ 1 := by rw [Lib.size_eq, hAl, List.length_take]; omega
      have hBs : B.size ≤ 800 := by rw [Lib.size_eq, hBl, List.length_drop]; omega
      have hC : ∀ X : ByteArray, X.data.toList = canonN (b, D, p) → (⟨(canonN (b, D, p)).toArray⟩ : ByteArray) = X := fun X hX => ba_ext (by rw [hX])
      have hcn : canonN (b, D, p) = (if b = true then [45] else []) ++ D.take 1 ++ (if 1 < D.length then 46 :: D.drop 1 else []) ++ (if p ≠ 0 then 101 :: Lib.itoa p else []) := by unfold canonN; rw [if_neg hD]
      show Calls _ _ _ _ fun e w' => e = .returned (.tuple #[.string ⟨(canonN (b, D, p)).toArray⟩, .bool true]) ∧ _
      by_cases h1 : 1 < D.length
      · by_cases h2 : p = 0
        · cases b
          · rw [hC (A ++ ⟨#[46]⟩ ++ B) (by rw [hcn]; simp [hAl, hBl, h1, h2])]; exact rcanon_fn0 s w hs hg T p hc hne h0 (by omega) hlo hhi I hI hIs A B hA hA1 hB hBs (by omega) h2
          · rw [hC (⟨#[45]⟩ ++ (A ++ ⟨#[46]⟩ ++ B)) (by rw [hcn]; simp [hAl, hBl, h1, h2])]; exact rcanon_tn0 s w hs hg T p hc hne h0 (by omega) hlo hhi I hI hIs A B hA hA1 hB hBs (by omega) h2
        · cases b
          · rw [hC (A ++ ⟨#[46]⟩ ++ B ++ ⟨#[101]⟩ ++ I) (by rw [hcn]; simp [hAl, hBl, hIl, h1, h2])]; exact rcanon_fnp s w hs hg T p hc hne h0 (by omega) hlo hhi I hI hIs A B hA hA1 hB hBs (by omega) h2
          · rw [hC (⟨#[45]⟩ ++ (A ++ ⟨#[46]⟩ ++ B) ++ ⟨#[101]⟩ ++ I) (by rw [hcn]; simp [hAl, hBl, hIl, h1, h2])]; exact rcanon_tnp s w hs hg T p hc hne h0 (by omega) hlo hhi I hI hIs A B hA hA1 hB hBs (by omega) h2
      · have h1' : D.length = 1 := by omega
        by_cases h2 : p = 0
        · cases b
          · rw [hC A (by rw [hcn]; simp [hAl, hBl, h1, h2])]; exact rcanon_f10 s w hs hg T p hc hne h0 (by omega) hlo hhi I hI hIs A B hA hA1 hB hBs (by omega) h2
          · rw [hC (⟨#[45]⟩ ++ A) (by rw [hcn]; simp [hAl, hBl, h1, h2])]; exact rcanon_t10 s w hs hg T p hc hne h0 (by omega) hlo hhi I hI hIs A B hA hA1 hB hBs (by omega) h2
        · cases b
          · rw [hC (A ++ ⟨#[101]⟩ ++ I) (by rw [hcn]; simp [hAl, hBl, hIl, h1, h2])]; exact rcanon_f1p s w hs hg T p hc hne h0 (by omega) hlo hhi I hI hIs A B hA hA1 hB hBs (by omega) h2
          · rw [hC (⟨#[45]⟩ ++ A ++ ⟨#[101]⟩ ++ I) (by rw [hcn]; simp [hAl, hBl, hIl, h1, h2])]; exact rcanon_t1p s w hs hg T p hc hne h0 (by omega) hlo hhi I hI hIs A B hA hA1 hB hBs (by omega) h2
end Go.Proofs.YtkdejdmmgjibmaaDoor
