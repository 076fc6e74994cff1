/-
  dec.Text, dec.Canon, walked. Condition: the library's table of powers of ten reads as the library lays it.
-/
import Derived.Test.YtkdejdmmgjibmaaDoorDecFns
import Derived.Test.YtkdejdmmgjibmaaDoorClkBase
import Derived.Lib.AppendIntMem
import Derived.Lib.ItoaLen
namespace Go.Proofs.YtkdejdmmgjibmaaDoor
open Go.RowKit
set_option linter.unusedVariables false
set_option linter.unusedSimpArgs false
abbrev Pow10 (w : World) : Prop := Lib.TabIs Tryd.prog w "internal/strconv.uint64pow10" .u64 Lib.pow10Tab
theorem var_step {P : Program} {n : String} {cs : Array Value} {w w' : World} (h : w.var? P n = some cs) (hb : Below w.heap.size w w') : w'.var? P n = some cs := by
  unfold World.var? at h ⊢
  cases hg : P.globalNamed n with
  | none => rw [hg] at h; simp at h
  | some g =>
    rw [hg] at h
    simp only [Option.bind_some] at h ⊢
    have hlt : g < w.heap.size := by
      rcases Nat.lt_or_ge g w.heap.size with h' | h'
      · exact h'
      · rw [Array.getElem?_eq_none h'] at h; cases h
    rw [hb.block g hlt]
    exact h
theorem pow10_step {w w' : World} (h : Pow10 w) (hb : Below w.heap.size w w') : Pow10 w' := var_step h hb
set_option maxHeartbeats 1000000 in
theorem text_any (n : Int) (w : World) (h0 : -9223372036854775808 ≤ n) (h1 : n ≤ 9223372036854775807) (htab : Pow10 w) : Calls Tryd.prog 20 #[.int .i64 n] w fun e w' => e = .returned (.string ⟨(Lib.itoa n).toArray⟩) ∧ Below w.heap.size w w' := by
  have Ht := Lib.hid htab
  clear htab
  go_enter Tryd.func20, Tryd.ntmps20
  go_wp2_with (go_at_call 33; refine (Tryd.strconv_FormatInt_10 _ (by omega) (by omega) _ Ht.out).mono ?_; rintro e w1 ⟨rfl, k, os, rfl⟩)
  go_ret
  exact ⟨rfl, Lib.below_grow w.heap.size w (Nat.le_refl _) k os⟩
def canonN (x : Num) : List UInt8 := if x.2.1 = [] then [48] else (if x.1 = true then [45] else []) ++ x.2.1.take 1 ++ (if 1 < x.2.1.length then 46 :: x.2.1.drop 1 else []) ++ (if x.2.2 ≠ 0 then 101 :: Lib.itoa x.2.2 else [])
set_option maxHeartbeats 1000000 in
theorem canon_none (s : ByteArray) (w : World) (hp : parseV (parseN s.data.toList) = .tuple #[.agg #[.bool false, .string ⟨#[]⟩, .int .i64 0], .bool false]) : Calls Tryd.prog 11 #[.string s] w fun e w' => e = .returned (.tuple #[.string ⟨#[]⟩, .bool false]) ∧ Below w.heap.size w w' := by
  have HP := Lib.hid hp
  clear hp
  go_enter Tryd.func11, Tryd.ntmps11
  go_wp2_with (go_at_call 24; refine (parse_any _ _).mono ?_; rintro e w1 ⟨rfl, hb1⟩; rw [HP.out]; have hbb := Lib.hid hb1; clear hb1)
  go_ret2
  exact ⟨rfl, by (repeat (first | exact Below.refl _ _ | exact hbb.out | (refine Below.alloc ?_ (by first | exact Nat.le_refl _ | exact hbb.out.size | (have := hbb.out.size; simp; omega) | (simp; done)) _)))⟩
set_option maxHeartbeats 1000000 in
theorem canon_zero (s : ByteArray) (w : World) (b : Bool) (p : Int) (hp : parseV (parseN s.data.toList) = .tuple #[.agg #[.bool b, .string ⟨#[]⟩, .int .i64 p], .bool true]) : Calls Tryd.prog 11 #[.string s] w fun e w' => e = .returned (.tuple #[.string ⟨#[48]⟩, .bool true]) ∧ Below w.heap.size w w' := by
  have HP := Lib.hid hp
  clear hp
  go_enter Tryd.func11, Tryd.ntmps11
  go_wp2_with (go_at_call 24; refine (parse_any _ _).mono ?_; rintro e w1 ⟨rfl, hb1⟩; rw [HP.out]; have hbb := Lib.hid hb1; clear hb1)
  go_ret2
  exact ⟨rfl, by (repeat (first | exact Below.refl _ _ | exact hbb.out | (refine Below.alloc ?_ (by first | exact Nat.le_refl _ | exact hbb.out.size | (have := hbb.out.size; simp; omega) | (simp; done)) _)))⟩
set_option maxRecDepth 100000 in
  set_option maxHeartbeats 1000000 in
  theorem canon_f10 (s : ByteArray) (w : World) (T : ByteArray) (p : Int) (hp : parseV (parseN s.data.toList) = .tuple #[.agg #[.bool false, .string T, .int .i64 p], .bool true]) (hT : ¬ T.toList = []) (hT0 : 0 < T.size) (hTs : T.size ≤ 800) (hp1 : -101000 ≤ p) (hp2 : p ≤ 101000) (htab : Pow10 w)
      (I : ByteArray) (hI : (⟨(Lib.itoa p).toArray⟩ : ByteArray) = I) (hIs : I.size ≤ 100) (A B : ByteArray) (hA : T.extract 0 1 = A) (hA1 : A.size ≤ 1) (hB : T.extract 1 T.size = B) (hBs : B.size ≤ 800) (h1 : (T.size : Int) = 1) (h2 : p = 0) :
      Calls Tryd.prog 11 #[.string s] w fun e w' => e = .returned (.tuple #[.string (A), .bool true]) ∧ Below w.heap.size w w' := by
    have HP := Lib.hid hp
    have HI := Lib.hid hI
    have Ht := Lib.hid htab
    have hie : T.toList.isEmpty = false := by simp [hT]
    clear hp htab hI
    go_enter Tryd.func11, Tryd.ntmps11
    go_wp2_with (first | (go_at_call 24; refine (parse_any _ _).mono ?_; rintro e w1 ⟨rfl, hb1⟩; rw [HP.out]; have hbb := Lib.hid hb1; clear hb1) | (go_at_call 25; have hbc := Lib.hid ((hbb.out.alloc hbb.out.size (.cells #[.bool false, .string T, .int .i64 p] 40) : Below w.heap.size w (w1.alloc (.cells #[.bool false, .string T, .int .i64 p] 40)))); refine (Tryd.strconv_Itoa _ (by omega) (by omega) (w1.alloc (.cells #[.bool false, .string T, .int .i64 p] 40)) (pow10_step Ht.out hbc.out)).mono ?_; rintro e w4 ⟨rfl, k, os, rfl⟩; rw [HI.out]))
    go_ret2
    refine ⟨?_, by first | exact hbc.out.trans (Lib.below_grow _ _ hbc.out.size k os) | (repeat (first | exact Below.refl _ _ | exact hbb.out | (refine Below.alloc ?_ (by first | exact Nat.le_refl _ | exact hbb.out.size | (have := hbb.out.size; simp; omega) | (simp; done)) _)))⟩
    rfl
set_option maxRecDepth 100000 in
set_option maxHeartbeats 1000000 in
theorem canon_t10 (s : ByteArray) (w : World) (T : ByteArray) (p : Int) (hp : parseV (parseN s.data.toList) = .tuple #[.agg #[.bool true, .string T, .int .i64 p], .bool true]) (hT : ¬ T.toList = []) (hT0 : 0 < T.size) (hTs : T.size ≤ 800) (hp1 : -101000 ≤ p) (hp2 : p ≤ 101000) (htab : Pow10 w)
    (I : ByteArray) (hI : (⟨(Lib.itoa p).toArray⟩ : ByteArray) = I) (hIs : I.size ≤ 100) (A B : ByteArray) (hA : T.extract 0 1 = A) (hA1 : A.size ≤ 1) (hB : T.extract 1 T.size = B) (hBs : B.size ≤ 800) (h1 : (T.size : Int) = 1) (h2 : p = 0) :
    Calls Tryd.prog 11 #[.string s] w fun e w' => e = .returned (.tuple #[.string (⟨#[45]⟩ ++ A), .bool true]) ∧ Below w.heap.size w w' := by
  have HP := Lib.hid hp
  have HI := Lib.hid hI
  have Ht := Lib.hid htab
  have hie : T.toList.isEmpty = false := by simp [hT]
  clear hp htab hI
  go_enter Tryd.func11, Tryd.ntmps11
  go_wp2_with (first | (go_at_call 24; refine (parse_any _ _).mono ?_; rintro e w1 ⟨rfl, hb1⟩; rw [HP.out]; have hbb := Lib.hid hb1; clear hb1) | (go_at_call 25; have hbc := Lib.hid ((hbb.out.alloc hbb.out.size (.cells #[.bool true, .string T, .int .i64 p] 40) : Below w.heap.size w (w1.alloc (.cells #[.bool true, .string T, .int .i64 p] 40)))); refine (Tryd.strconv_Itoa _ (by omega) (by omega) (w1.alloc (.cells #[.bool true, .string T, .int .i64 p] 40)) (pow10_step Ht.out hbc.out)).mono ?_; rintro e w4 ⟨rfl, k, os, rfl⟩; rw [HI.out]))
  go_ret2
  refine ⟨?_, by first | exact hbc.out.trans (Lib.below_grow _ _ hbc.out.size k os) | (repeat (first | exact Below.refl _ _ | exact hbb.out | (refine Below.alloc ?_ (by first | exact Nat.le_refl _ | exact hbb.out.size | (have := hbb.out.size; simp; omega) | (simp; done)) _)))⟩
  rfl
set_option maxRecDepth 100000 in
set_option maxHeartbeats 1000000 in
theorem canon_fn0 (s : ByteArray) (w : World) (T : ByteArray) (p : Int) (hp : parseV (parseN s.data.toList) = .tuple #[.agg #[.bool false, .string T, .int .i64 p], .bool true]) (hT : ¬ T.toList = []) (hT0 : 0 < T.size) (hTs : T.size ≤ 800) (hp1 : -101000 ≤ p) (hp2 : p ≤ 101000) (htab : Pow10 w)
    (I : ByteArray) (hI : (⟨(Lib.itoa p).toArray⟩ : ByteArray) = I) (hIs : I.size ≤ 100) (A B : ByteArray) (hA : T.extract 0 1 = A) (hA1 : A.size ≤ 1) (hB : T.extract 1 T.size = B) (hBs : B.size ≤ 800) (h1 : 1 < (T.size : Int)) (h2 : p = 0) :
    Calls Tryd.prog 11 #[.string s] w fun e w' => e = .returned (.tuple #[.string (A ++ (⟨#[46]⟩ ++ B)), .bool true]) ∧ Below w.heap.size w w' := by
  have HP := Lib.hid hp
  have HI := Lib.hid hI
  have Ht := Lib.hid htab
  have hie : T.toList.isEmpty = false := by simp [hT]
  clear hp htab hI
  go_enter Tryd.func11, Tryd.ntmps11
  go_wp2_with (first | (go_at_call 24; refine (parse_any _ _).mono ?_; rintro e w1 ⟨rfl, hb1⟩; rw [HP.out]; have hbb := Lib.hid hb1; clear hb1) | (go_at_call 25; have hbc := Lib.hid ((hbb.out.alloc hbb.out.size (.cells #[.bool false, .string T, .int .i64 p] 40) : Below w.heap.size w (w1.alloc (.cells #[.bool false, .string T, .int .i64 p] 40)))); refine (Tryd.strconv_Itoa _ (by omega) (by omega) (w1.alloc (.cells #[.bool false, .string T, .int .i64 p] 40)) (pow10_step Ht.out hbc.out)).mono ?_; rintro e w4 ⟨rfl, k, os, rfl⟩; rw [HI.out]))
  go_ret2
  refine ⟨?_, by first | exact hbc.out.trans (Lib.below_grow _ _ hbc.out.size k os) | (repeat (first | exact Below.refl _ _ | exact hbb.out | (refine Below.alloc ?_ (by first | exact Nat.le_refl _ | exact hbb.out.size | (have := hbb.out.size; simp; omega) | (simp; done)) _)))⟩
  rfl
set_option maxRecDepth 100000 in
set_option maxHeartbeats 1000000 in
theorem canon_tn0 (s : ByteArray) (w : World) (T : ByteArray) (p : Int) (hp : parseV (parseN s.data.toList) = .tuple #[.agg #[.bool true, .string T, .int .i64 p], .bool true]) (hT : ¬ T.toList = []) (hT0 : 0 < T.size) (hTs : T.size ≤ 800) (hp1 : -101000 ≤ p) (hp2 : p ≤ 101000) (htab : Pow10 w)
    (I : ByteArray) (hI : (⟨(Lib.itoa p).toArray⟩ : ByteArray) = I) (hIs : I.size ≤ 100) (A B : ByteArray) (hA : T.extract 0 1 = A) (hA1 : A.size ≤ 1) (hB : T.extract 1 T.size = B) (hBs : B.size ≤ 800) (h1 : 1 < (T.size : Int)) (h2 : p = 0) :
    Calls Tryd.prog 11 #[.string s] w fun e w' => e = .returned (.tuple #[.string (⟨#[45]⟩ ++ A ++ (⟨#[46]⟩ ++ B)), .bool true]) ∧ Below w.heap.size w w' := by
  have HP := Lib.hid hp
  have HI := Lib.hid hI
  have Ht := Lib.hid htab
  have hie : T.toList.isEmpty = false := by simp [hT]
  clear hp htab hI
  go_enter Tryd.func11, Tryd.ntmps11
  go_wp2_with (first | (go_at_call 24; refine (parse_any _ _).mono ?_; rintro e w1 ⟨rfl, hb1⟩; rw [HP.out]; have hbb := Lib.hid hb1; clear hb1) | (go_at_call 25; have hbc := Lib.hid ((hbb.out.alloc hbb.out.size (.cells #[.bool true, .string T, .int .i64 p] 40) : Below w.heap.size w (w1.alloc (.cells #[.bool true, .string T, .int .i64 p] 40)))); refine (Tryd.strconv_Itoa _ (by omega) (by omega) (w1.alloc (.cells #[.bool true, .string T, .int .i64 p] 40)) (pow10_step Ht.out hbc.out)).mono ?_; rintro e w4 ⟨rfl, k, os, rfl⟩; rw [HI.out]))
  go_ret2
  refine ⟨?_, by first | exact hbc.out.trans (Lib.below_grow _ _ hbc.out.size k os) | (repeat (first | exact Below.refl _ _ | exact hbb.out | (refine Below.alloc ?_ (by first | exact Nat.le_refl _ | exact hbb.out.size | (have := hbb.out.size; simp; omega) | (simp; done)) _)))⟩
  rfl
set_option maxRecDepth 100000 in
set_option maxHeartbeats 1000000 in
theorem canon_f1p (s : ByteArray) (w : World) (T : ByteArray) (p : Int) (hp : parseV (parseN s.data.toList) = .tuple #[.agg #[.bool false, .string T, .int .i64 p], .bool true]) (hT : ¬ T.toList = []) (hT0 : 0 < T.size) (hTs : T.size ≤ 800) (hp1 : -101000 ≤ p) (hp2 : p ≤ 101000) (htab : Pow10 w)
    (I : ByteArray) (hI : (⟨(Lib.itoa p).toArray⟩ : ByteArray) = I) (hIs : I.size ≤ 100) (A B : ByteArray) (hA : T.extract 0 1 = A) (hA1 : A.size ≤ 1) (hB : T.extract 1 T.size = B) (hBs : B.size ≤ 800) (h1 : (T.size : Int) = 1) (h2 : ¬ p = 0) :
    Calls Tryd.prog 11 #[.string s] w fun e w' => e = .returned (.tuple #[.string (A ++ (⟨#[101]⟩ ++ I)), .bool true]) ∧ Below w.heap.size w w' := by
  have HP := Lib.hid hp
  have HI := Lib.hid hI
  have Ht := Lib.hid htab
  have hie : T.toList.isEmpty = false := by simp [hT]
  clear hp htab hI
  go_enter Tryd.func11, Tryd.ntmps11
  go_wp2_with (first | (go_at_call 24; refine (parse_any _ _).mono ?_; rintro e w1 ⟨rfl, hb1⟩; rw [HP.out]; have hbb := Lib.hid hb1; clear hb1) | (go_at_call 25; have hbc := Lib.hid ((hbb.out.alloc hbb.out.size (.cells #[.bool false, .string T, .int .i64 p] 40) : Below w.heap.size w (w1.alloc (.cells #[.bool false, .string T, .int .i64 p] 40)))); refine (Tryd.strconv_Itoa _ (by omega) (by omega) (w1.alloc (.cells #[.bool false, .string T, .int .i64 p] 40)) (pow10_step Ht.out hbc.out)).mono ?_; rintro e w4 ⟨rfl, k, os, rfl⟩; rw [HI.out]))
  go_ret2
  refine ⟨?_, by first | exact hbc.out.trans (Lib.below_grow _ _ hbc.out.size k os) | (repeat (first | exact Below.refl _ _ | exact hbb.out | (refine Below.alloc ?_ (by first | exact Nat.le_refl _ | exact hbb.out.size | (have := hbb.out.size; simp; omega) | (simp; done)) _)))⟩
  rfl
set_option maxRecDepth 100000 in
set_option maxHeartbeats 1000000 in
theorem canon_t1p (s : ByteArray) (w : World) (T : ByteArray) (p : Int) (hp : parseV (parseN s.data.toList) = .tuple #[.agg #[.bool true, .string T, .int .i64 p], .bool true]) (hT : ¬ T.toList = []) (hT0 : 0 < T.size) (hTs : T.size ≤ 800) (hp1 : -101000 ≤ p) (hp2 : p ≤ 101000) (htab : Pow10 w)
    (I : ByteArray) (hI : (⟨(Lib.itoa p).toArray⟩ : ByteArray) = I) (hIs : I.size ≤ 100) (A B : ByteArray) (hA : T.extract 0 1 = A) (hA1 : A.size ≤ 1) (hB : T.extract 1 T.size = B) (hBs : B.size ≤ 800) (h1 : (T.size : Int) = 1) (h2 : ¬ p = 0) :
    Calls Tryd.prog 11 #[.string s] w fun e w' => e = .returned (.tuple #[.string (⟨#[45]⟩ ++ A ++ (⟨#[101]⟩ ++ I)), .bool true]) ∧ Below w.heap.size w w' := by
  have HP := Lib.hid hp
  have HI := Lib.hid hI
  have Ht := Lib.hid htab
  have hie : T.toList.isEmpty = false := by simp [hT]
  clear hp htab hI
  go_enter Tryd.func11, Tryd.ntmps11
  go_wp2_with (first | (go_at_call 24; refine (parse_any _ _).mono ?_; rintro e w1 ⟨rfl, hb1⟩; rw [HP.out]; have hbb := Lib.hid hb1; clear hb1) | (go_at_call 25; have hbc := Lib.hid ((hbb.out.alloc hbb.out.size (.cells #[.bool true, .string T, .int .i64 p] 40) : Below w.heap.size w (w1.alloc (.cells #[.bool true, .string T, .int .i64 p] 40)))); refine (Tryd.strconv_Itoa _ (by omega) (by omega) (w1.alloc (.cells #[.bool true, .string T, .int .i64 p] 40)) (pow10_step Ht.out hbc.out)).mono ?_; rintro e w4 ⟨rfl, k, os, rfl⟩; rw [HI.out]))
  go_ret2
  refine ⟨?_, by first | exact hbc.out.trans (Lib.below_grow _ _ hbc.out.size k os) | (repeat (first | exact Below.refl _ _ | exact hbb.out | (refine Below.alloc ?_ (by first | exact Nat.le_refl _ | exact hbb.out.size | (have := hbb.out.size; simp; omega) | (simp; done)) _)))⟩
  rfl
set_option maxRecDepth 100000 in
set_option maxHeartbeats 1000000 in
theorem canon_fnp (s : ByteArray) (w : World) (T : ByteArray) (p : Int) (hp : parseV (parseN s.data.toList) = .tuple #[.agg #[.bool false, .string T, .int .i64 p], .bool true]) (hT : ¬ T.toList = []) (hT0 : 0 < T.size) (hTs : T.size ≤ 800) (hp1 : -101000 ≤ p) (hp2 : p ≤ 101000) (htab : Pow10 w)
    (I : ByteArray) (hI : (⟨(Lib.itoa p).toArray⟩ : ByteArray) = I) (hIs : I.size ≤ 100) (A B : ByteArray) (hA : T.extract 0 1 = A) (hA1 : A.size ≤ 1) (hB : T.extract 1 T.size = B) (hBs : B.size ≤ 800) (h1 : 1 < (T.size : Int)) (h2 : ¬ p = 0) :
    Calls Tryd.prog 11 #[.string s] w fun e w' => e = .returned (.tuple #[.string (A ++ (⟨#[46]⟩ ++ B) ++ (⟨#[101]⟩ ++ I)), .bool true]) ∧ Below w.heap.size w w' := by
  have HP := Lib.hid hp
  have HI := Lib.hid hI
  have Ht := Lib.hid htab
  have hie : T.toList.isEmpty = false := by simp [hT]
  clear hp htab hI
  go_enter Tryd.func11, Tryd.ntmps11
  go_wp2_with (first | (go_at_call 24; refine (parse_any _ _).mono ?_; rintro e w1 ⟨rfl, hb1⟩; rw [HP.out]; have hbb := Lib.hid hb1; clear hb1) | (go_at_call 25; have hbc := Lib.hid ((hbb.out.alloc hbb.out.size (.cells #[.bool false, .string T, .int .i64 p] 40) : Below w.heap.size w (w1.alloc (.cells #[.bool false, .string T, .int .i64 p] 40)))); refine (Tryd.strconv_Itoa _ (by omega) (by omega) (w1.alloc (.cells #[.bool false, .string T, .int .i64 p] 40)) (pow10_step Ht.out hbc.out)).mono ?_; rintro e w4 ⟨rfl, k, os, rfl⟩; rw [HI.out]))
  go_ret2
  refine ⟨?_, by first | exact hbc.out.trans (Lib.below_grow _ _ hbc.out.size k os) | (repeat (first | exact Below.refl _ _ | exact hbb.out | (refine Below.alloc ?_ (by first | exact Nat.le_refl _ | exact hbb.out.size | (have := hbb.out.size; simp; omega) | (simp; done)) _)))⟩
  rfl
set_option maxRecDepth 100000 in
set_option maxHeartbeats 1000000 in
theorem canon_tnp (s : ByteArray) (w : World) (T : ByteArray) (p : Int) (hp : parseV (parseN s.data.toList) = .tuple #[.agg #[.bool true, .string T, .int .i64 p], .bool true]) (hT : ¬ T.toList = []) (hT0 : 0 < T.size) (hTs : T.size ≤ 800) (hp1 : -101000 ≤ p) (hp2 : p ≤ 101000) (htab : Pow10 w)
    (I : ByteArray) (hI : (⟨(Lib.itoa p).toArray⟩ : ByteArray) = I) (hIs : I.size ≤ 100) (A B : ByteArray) (hA : T.extract 0 1 = A) (hA1 : A.size ≤ 1) (hB : T.extract 1 T.size = B) (hBs : B.size ≤ 800) (h1 : 1 < (T.size : Int)) (h2 : ¬ p = 0) :
    Calls Tryd.prog 11 #[.string s] w fun e w' => e = .returned (.tuple #[.string (⟨#[45]⟩ ++ A ++ (⟨#[46]⟩ ++ B) ++ (⟨#[101]⟩ ++ I)), .bool true]) ∧ Below w.heap.size w w' := by
  have HP := Lib.hid hp
  have HI := Lib.hid hI
  have Ht := Lib.hid htab
  have hie : T.toList.isEmpty = false := by simp [hT]
  clear hp htab hI
  go_enter Tryd.func11, Tryd.ntmps11
  go_wp2_with (first | (go_at_call 24; refine (parse_any _ _).mono ?_; rintro e w1 ⟨rfl, hb1⟩; rw [HP.out]; have hbb := Lib.hid hb1; clear hb1) | (go_at_call 25; have hbc := Lib.hid ((hbb.out.alloc hbb.out.size (.cells #[.bool true, .string T, .int .i64 p] 40) : Below w.heap.size w (w1.alloc (.cells #[.bool true, .string T, .int .i64 p] 40)))); refine (Tryd.strconv_Itoa _ (by omega) (by omega) (w1.alloc (.cells #[.bool true, .string T, .int .i64 p] 40)) (pow10_step Ht.out hbc.out)).mono ?_; rintro e w4 ⟨rfl, k, os, rfl⟩; rw [HI.out]))
  go_ret2
  refine ⟨?_, by first | exact hbc.out.trans (Lib.below_grow _ _ hbc.out.size k os) | (repeat (first | exact Below.refl _ _ | exact hbb.out | (refine Below.alloc ?_ (by first | exact Nat.le_refl _ | exact hbb.out.size | (have := hbb.out.size; simp; omega) | (simp; done)) _)))⟩
  rfl
end Go.Proofs.YtkdejdmmgjibmaaDoor
