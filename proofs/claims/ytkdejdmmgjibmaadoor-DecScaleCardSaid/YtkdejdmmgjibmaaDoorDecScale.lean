/-
  DecScale, walked: true, whatever the numbers. Condition: the library's variables as it lays them.
-/
import Derived.Test.YtkdejdmmgjibmaaDoorDecScl
import Derived.Test.YtkdejdmmgjibmaaDoorDecInts
namespace Go.Proofs.YtkdejdmmgjibmaaDoor
open Go.RowKit
set_option linter.unusedVariables false
set_option linter.unusedSimpArgs false
set_option maxRecDepth 100000 in
set_option maxHeartbeats 1000000 in
theorem scale_o1 (n a b : Int) (w : World) (hw : Vars w) (h1 : a < -2000) : Calls Tryd.prog 7 #[.int .i64 n, .int .i64 a, .int .i64 b] w fun e w' => e = .returned (.bool true) ∧ Below w.heap.size w w' := by
  have HV := Lib.hid hw
  have hbb := Lib.hid (Below.refl w.heap.size w)
  clear hw
  go_enter Tryd.func7, Tryd.ntmps7
  go_wp2_with (go_at_call 9; refine (awake_any _ (HV.out.step hbb.out)).mono ?_; rintro e w1 ⟨rfl, hb1⟩; have hbb0 := hbb; clear hbb; have hbb := Lib.hid (below_then hbb0.out hbb0.out.size hb1); clear hb1 hbb0)
  all_goals (go_ret; exact ⟨rfl, hbb.out⟩)
set_option maxRecDepth 100000 in
set_option maxHeartbeats 1000000 in
theorem scale_o2 (n a b : Int) (w : World) (hw : Vars w) (h1 : ¬ a < -2000) (h2 : 2000 < a) : Calls Tryd.prog 7 #[.int .i64 n, .int .i64 a, .int .i64 b] w fun e w' => e = .returned (.bool true) ∧ Below w.heap.size w w' := by
  have HV := Lib.hid hw
  have hbb := Lib.hid (Below.refl w.heap.size w)
  clear hw
  go_enter Tryd.func7, Tryd.ntmps7
  go_wp2_with (go_at_call 9; refine (awake_any _ (HV.out.step hbb.out)).mono ?_; rintro e w1 ⟨rfl, hb1⟩; have hbb0 := hbb; clear hbb; have hbb := Lib.hid (below_then hbb0.out hbb0.out.size hb1); clear hb1 hbb0)
  all_goals (go_ret; exact ⟨rfl, hbb.out⟩)
set_option maxRecDepth 100000 in
set_option maxHeartbeats 1000000 in
theorem scale_o3 (n a b : Int) (w : World) (hw : Vars w) (h1 : ¬ a < -2000) (h2 : ¬ 2000 < a) (h3 : b < 0) : Calls Tryd.prog 7 #[.int .i64 n, .int .i64 a, .int .i64 b] w fun e w' => e = .returned (.bool true) ∧ Below w.heap.size w w' := by
  have HV := Lib.hid hw
  have hbb := Lib.hid (Below.refl w.heap.size w)
  clear hw
  go_enter Tryd.func7, Tryd.ntmps7
  go_wp2_with (go_at_call 9; refine (awake_any _ (HV.out.step hbb.out)).mono ?_; rintro e w1 ⟨rfl, hb1⟩; have hbb0 := hbb; clear hbb; have hbb := Lib.hid (below_then hbb0.out hbb0.out.size hb1); clear hb1 hbb0)
  all_goals (go_ret; exact ⟨rfl, hbb.out⟩)
set_option maxRecDepth 100000 in
set_option maxHeartbeats 1000000 in
theorem scale_o4 (n a b : Int) (w : World) (hw : Vars w) (h1 : ¬ a < -2000) (h2 : ¬ 2000 < a) (h3 : ¬ b < 0) (h4 : 100 < b) : Calls Tryd.prog 7 #[.int .i64 n, .int .i64 a, .int .i64 b] w fun e w' => e = .returned (.bool true) ∧ Below w.heap.size w w' := by
  have HV := Lib.hid hw
  have hbb := Lib.hid (Below.refl w.heap.size w)
  clear hw
  go_enter Tryd.func7, Tryd.ntmps7
  go_wp2_with (go_at_call 9; refine (awake_any _ (HV.out.step hbb.out)).mono ?_; rintro e w1 ⟨rfl, hb1⟩; have hbb0 := hbb; clear hbb; have hbb := Lib.hid (below_then hbb0.out hbb0.out.size hb1); clear hb1 hbb0)
  all_goals (go_ret; exact ⟨rfl, hbb.out⟩)
theorem zeros_next {k : Nat} {Z : ByteArray} (h : (⟨(List.replicate k 48).toArray⟩ : ByteArray) = Z) : Z ++ (⟨#[48]⟩ : ByteArray) = ⟨(List.replicate (k + 1) 48).toArray⟩ := by
  subst h
  refine ba_ext ?_
  rw [ba_append]
  show List.replicate k 48 ++ [48] = List.replicate (k + 1) 48
  exact List.replicate_succ'.symm
theorem zeros_size {k : Nat} {Z : ByteArray} (h : (⟨(List.replicate k 48).toArray⟩ : ByteArray) = Z) : Z.size = k := by subst h; rw [Lib.size_eq]; simp
theorem app_size (a b : ByteArray) : (a ++ b).size = a.size + b.size := by rw [Lib.size_eq, ba_append, List.length_append, ← Lib.size_eq, ← Lib.size_eq]
set_option maxRecDepth 100000 in
set_option maxHeartbeats 4000000 in
theorem scale_ok (n a : Int) (b : Nat) (hn1 : -9223372036854775808 ≤ n) (hn2 : n ≤ 9223372036854775807) (h1 : -2000 ≤ a) (h2 : a ≤ 2000) (h4 : b ≤ 100) (w : World) (hw : Vars w)
    (S P Q R : ByteArray) (s1 : (⟨(Lib.itoa n).toArray⟩ : ByteArray) = S) (p1 : (⟨(Lib.itoa a).toArray⟩ : ByteArray) = P) (q1 : (⟨(Lib.itoa (a - b)).toArray⟩ : ByteArray) = Q) (r1 : (⟨(Lib.itoa (a + 1)).toArray⟩ : ByteArray) = R) (hS : S.size ≤ 21) (hP : P.size ≤ 21) (hQ : Q.size ≤ 21) (hR : R.size ≤ 21)
    (ZB Se X SZ SZe Y S0 S0Z S0ZE ZZ X' : ByteArray) (zb : (⟨(List.replicate b 48).toArray⟩ : ByteArray) = ZB) (hZB : ZB.size ≤ 100) (e1 : S ++ (⟨#[101]⟩ : ByteArray) = Se) (e2 : Se ++ P = X) (e3 : S ++ ZB = SZ) (e4 : SZ ++ (⟨#[101]⟩ : ByteArray) = SZe) (e5 : SZe ++ Q = Y)
    (e6 : S ++ (⟨#[46, 48]⟩ : ByteArray) = S0) (e7 : S0 ++ ZB = S0Z) (e8 : S0Z ++ (⟨#[69]⟩ : ByteArray) = S0ZE) (e9 : S0ZE ++ P = ZZ) (e10 : Se ++ R = X')
    (z1 : Se.size ≤ 30) (z2 : X.size ≤ 300) (z3 : SZ.size ≤ 200) (z4 : SZe.size ≤ 201) (z5 : (Y.size : Int) ≤ 300) (z6 : S0.size ≤ 30) (z7 : S0Z.size ≤ 200) (z8 : S0ZE.size ≤ 201) (z9 : ZZ.size ≤ 300) (z10 : X'.size ≤ 300)
    (v : Int) (x1 : n ≠ 0 → cmpN X.data.toList Y.data.toList = 0) (x2 : cmpN X.data.toList ZZ.data.toList = 0) (x3 : n ≠ 0 → cmpN X.data.toList X'.data.toList = v) (hv : v = -1 ∨ v = 1) (x4 : n = 0 → cmpN X.data.toList (⟨#[48]⟩ : ByteArray).data.toList = 0) :
    Calls Tryd.prog 7 #[.int .i64 n, .int .i64 a, .int .i64 b] w fun e w' => e = .returned (.bool true) ∧ Below w.heap.size w w' := by
  have HV := Lib.hid hw
  have hbb := Lib.hid (Below.refl w.heap.size w)
  have S1 := Lib.hid s1
  have P1 := Lib.hid p1
  have Q1 := Lib.hid q1
  have R1 := Lib.hid r1
  have ZZB := Lib.hid zb
  have HX1 := Lib.hid x1
  have X2 := Lib.hid x2
  have HX3 := Lib.hid x3
  have HX4 := Lib.hid x4
  clear hw s1 p1 q1 r1 zb x1 x2 x3 x4
  go_enter Tryd.func7, Tryd.ntmps7
  go_wp2_with (first | (go_at_call 9; refine (awake_any _ (HV.out.step hbb.out)).mono ?_; rintro e w1 ⟨rfl, hb1⟩; have hbb0 := hbb; clear hbb; have hbb := Lib.hid (below_then hbb0.out hbb0.out.size hb1); clear hb1 hbb0) | (go_at_call 20; refine (text_any _ _ (by omega) (by omega) (HV.out.step hbb.out).tab).mono ?_; rintro e w1 ⟨rfl, hb1⟩; (first | rw [S1.out] | rw [P1.out] | rw [Q1.out] | rw [R1.out]); have hbb0 := hbb; clear hbb; have hbb := Lib.hid (below_then hbb0.out hbb0.out.size hb1); clear hb1 hbb0))
  go_loop [8, 9] (fun z i => ∃ k : Nat, k ≤ b ∧ z = .string ⟨(List.replicate k 48).toArray⟩ ∧ i = .int .i64 (k : Int)) (fun _ i => b - (intOf i).toNat)
  case atStart => exact ⟨0, by omega, rfl, rfl⟩
  case round =>
    obtain ⟨k, hk, rfl, rfl⟩ := hrel
    by_cases hkb : k < b
    · obtain ⟨Z, hZ⟩ : ∃ Z, (⟨(List.replicate k 48).toArray⟩ : ByteArray) = Z := ⟨_, rfl⟩
      have hZs := zeros_size hZ
      have hZn := zeros_next hZ
      rw [hZ]
      have HZn := Lib.hid hZn
      have hZs2 : Z.size ≤ 100 := by omega
      clear hZ hZn hZs
      go_wp2
      exact ⟨⟨k + 1, by omega, by rw [HZn.out], rfl⟩, by simp only [intOf]; omega⟩
    · obtain rfl : k = b := by omega
      rw [ZZB.out]
      by_cases hn0 : n = 0
      · have X4 := Lib.hid (HX4.out hn0)
        have X1 := X2
        have X3 := X2
        go_wp2_with (first | (go_at_call 20; refine (text_any _ _ (by omega) (by omega) (HV.out.step hbb.out).tab).mono ?_; rintro e w1 ⟨rfl, hb1⟩; (first | rw [S1.out] | rw [P1.out] | rw [Q1.out] | rw [R1.out]); have hbb0 := hbb; clear hbb; have hbb := Lib.hid (below_then hbb0.out hbb0.out.size hb1); clear hb1 hbb0) | (go_at_call 13; refine (cmp_any _ _ _).mono ?_; rintro e w1 ⟨rfl, hb1⟩; (first | rw [X1.out] | rw [X2.out] | rw [X3.out] | rw [X4.out]); have hbb0 := hbb; clear hbb; have hbb := Lib.hid (below_then hbb0.out hbb0.out.size hb1); clear hb1 hbb0))
        all_goals (go_ret; exact ⟨rfl, hbb.out⟩)
      · have X1 := Lib.hid (HX1.out hn0)
        have X3 := Lib.hid (HX3.out hn0)
        have X4 := X2
        have hne : (n == 0) = false := by simpa using hn0
        have hYb : decide (300 < (Y.size : Int)) = false := by simp; omega
        rcases hv with rfl | rfl
        · go_wp2_with (first | (go_at_call 20; refine (text_any _ _ (by omega) (by omega) (HV.out.step hbb.out).tab).mono ?_; rintro e w1 ⟨rfl, hb1⟩; (first | rw [S1.out] | rw [P1.out] | rw [Q1.out] | rw [R1.out]); have hbb0 := hbb; clear hbb; have hbb := Lib.hid (below_then hbb0.out hbb0.out.size hb1); clear hb1 hbb0) | (go_at_call 13; refine (cmp_any _ _ _).mono ?_; rintro e w1 ⟨rfl, hb1⟩; (first | rw [X1.out] | rw [X2.out] | rw [X3.out] | rw [X4.out]); have hbb0 := hbb; clear hbb; have hbb := Lib.hid (below_then hbb0.out hbb0.out.size hb1); clear hb1 hbb0))
          all_goals (go_ret; exact ⟨rfl, hbb.out⟩)
        · go_wp2_with (first | (go_at_call 20; refine (text_any _ _ (by omega) (by omega) (HV.out.step hbb.out).tab).mono ?_; rintro e w1 ⟨rfl, hb1⟩; (first | rw [S1.out] | rw [P1.out] | rw [Q1.out] | rw [R1.out]); have hbb0 := hbb; clear hbb; have hbb := Lib.hid (below_then hbb0.out hbb0.out.size hb1); clear hb1 hbb0) | (go_at_call 13; refine (cmp_any _ _ _).mono ?_; rintro e w1 ⟨rfl, hb1⟩; (first | rw [X1.out] | rw [X2.out] | rw [X3.out] | rw [X4.out]); have hbb0 := hbb; clear hbb; have hbb := Lib.hid (below_then hbb0.out hbb0.out.size hb1); clear hb1 hbb0))
          all_goals (go_ret; exact ⟨rfl, hbb.out⟩)
theorem itoa_21 (n : Int) (h0 : -9223372036854775808 ≤ n) (h1 : n ≤ 9223372036854775807) : (Lib.itoa n).length ≤ 21 ∧ (numD n).length ≤ 21 := by
  have h := Lib.itoa_length_le n h0 h1
  refine ⟨h, ?_⟩
  rw [itoa_is, List.length_append] at h
  show (Lib.decDigits n.natAbs).length ≤ 21
  omega
theorem scale_walk (n a b : Int) (w : World) (hw : Vars w) (wn : (Lit.int .i64 n).wf = true) (wa : (Lit.int .i64 a).wf = true) (wb : (Lit.int .i64 b).wf = true) : Calls Tryd.prog 7 #[.int .i64 n, .int .i64 a, .int .i64 b] w fun e w' => e = .returned (.bool true) ∧ Below w.heap.size w w' := by
  obtain ⟨hn1, hn2⟩ := bounds_i64 wn
  by_cases h1 : a < -2000
  · exact scale_o1 n a b w hw h1
  by_cases h2 : 2000 < a
  · exact scale_o2 n a b w hw h1 h2
  by_cases h3 : b < 0
  · exact scale_o3 n a b w hw h1 h2 h3
  by_cases h4 : 100 < b
  · exact scale_o4 n a b w hw h1 h2 h3 h4
  obtain ⟨k, rfl⟩ : ∃ k : Nat, b = k := ⟨b.toNat, by omega⟩
  have hk : k ≤ 100 := by omega
  obtain ⟨ln, dn⟩ := itoa_21 n hn1 hn2
  obtain ⟨la, _⟩ := itoa_21 a (by omega) (by omega)
  obtain ⟨lq, _⟩ := itoa_21 (a - k) (by omega) (by omega)
  obtain ⟨lr, _⟩ := itoa_21 (a + 1) (by omega) (by omega)
  have mk : ∀ l : List UInt8, (⟨l.toArray⟩ : ByteArray).size = l.length := fun l => by rw [Lib.size_eq]
  have zN := mk (Lib.itoa n)
  have zA := mk (Lib.itoa a)
  have zQ := mk (Lib.itoa (a - k))
  have zR := mk (Lib.itoa (a + 1))
  have zZ : (⟨(List.replicate k 48).toArray⟩ : ByteArray).size = k := by rw [mk, List.length_replicate]
  have k1 : (⟨#[101]⟩ : ByteArray).size = 1 := rfl
  have k2 : (⟨#[69]⟩ : ByteArray).size = 1 := rfl
  have k3 : (⟨#[46, 48]⟩ : ByteArray).size = 2 := rfl
  have eX : (((⟨(Lib.itoa n).toArray⟩ : ByteArray) ++ (⟨#[101]⟩ : ByteArray)) ++ (⟨(Lib.itoa a).toArray⟩ : ByteArray)).data.toList = Lib.itoa n ++ 101 :: Lib.itoa a := by rw [ba_append, ba_append]; simp
  have eX' : (((⟨(Lib.itoa n).toArray⟩ : ByteArray) ++ (⟨#[101]⟩ : ByteArray)) ++ (⟨(Lib.itoa (a + 1)).toArray⟩ : ByteArray)).data.toList = Lib.itoa n ++ 101 :: Lib.itoa (a + 1) := by rw [ba_append, ba_append]; simp
  have eY : ((((⟨(Lib.itoa n).toArray⟩ : ByteArray) ++ (⟨(List.replicate k 48).toArray⟩ : ByteArray)) ++ (⟨#[101]⟩ : ByteArray)) ++ (⟨(Lib.itoa (a - k)).toArray⟩ : ByteArray)).data.toList = Lib.itoa n ++ (List.replicate k 48 ++ 101 :: Lib.itoa (a - k)) := by rw [ba_append, ba_append, ba_append]; simp
  have eZ : (((((⟨(Lib.itoa n).toArray⟩ : ByteArray) ++ (⟨#[46, 48]⟩ : ByteArray)) ++ (⟨(List.replicate k 48).toArray⟩ : ByteArray)) ++ (⟨#[69]⟩ : ByteArray)) ++ (⟨(Lib.itoa a).toArray⟩ : ByteArray)).data.toList = Lib.itoa n ++ (46 :: (List.replicate (k + 1) 48 ++ 69 :: Lib.itoa a)) := by rw [ba_append, ba_append, ba_append, ba_append, List.replicate_succ]; simp
  have px := parse_x (n := n) (p := a) (by omega) (by omega) (by omega)
  have px' := parse_x (n := n) (p := a + 1) (by omega) (by omega) (by omega)
  have pz := parse_z (n := n) (p := a) (k := k) (by omega) (by omega) (by omega)
  refine scale_ok n a k hn1 hn2 (by omega) (by omega) hk w hw _ _ _ _ rfl rfl rfl rfl (by rw [mk]; exact ln) (by rw [mk]; exact la) (by rw [mk]; exact lq) (by rw [mk]; exact lr) _ _ _ _ _ _ _ _ _ _ _ rfl (by rw [mk, List.length_replicate]; exact hk) rfl rfl rfl rfl rfl rfl rfl rfl rfl rfl
    ?_ ?_ ?_ ?_ ?_ ?_ ?_ ?_ ?_ ?_ (if n = 0 then -1 else cmpNum (numOf n a) (numOf n (a + 1))) ?_ ?_ ?_ ?_ ?_
  · simp only [app_size, zN, zA, zQ, zR, zZ, k1, k2, k3]; omega
  · simp only [app_size, zN, zA, zQ, zR, zZ, k1, k2, k3]; omega
  · simp only [app_size, zN, zA, zQ, zR, zZ, k1, k2, k3]; omega
  · simp only [app_size, zN, zA, zQ, zR, zZ, k1, k2, k3]; omega
  · simp only [app_size, zN, zA, zQ, zR, zZ, k1, k2, k3]; omega
  · simp only [app_size, zN, zA, zQ, zR, zZ, k1, k2, k3]; omega
  · simp only [app_size, zN, zA, zQ, zR, zZ, k1, k2, k3]; omega
  · simp only [app_size, zN, zA, zQ, zR, zZ, k1, k2, k3]; omega
  · simp only [app_size, zN, zA, zQ, zR, zZ, k1, k2, k3]; omega
  · simp only [app_size, zN, zA, zQ, zR, zZ, k1, k2, k3]; omega
  · intro h
    rw [eX, eY]
    have py := parse_y (n := n) (p := a - k) (k := k) h (by omega) (by omega) (by omega)
    rw [show a - (k : Int) + k = a by omega] at py
    exact cmp_same (px.trans py.symm)
  · rw [eX, eZ]; exact cmp_same (px.trans pz.symm)
  · intro h
    rw [if_neg h, eX, eX']
    unfold cmpN
    rw [px, px']
  · by_cases h : n = 0
    · rw [if_pos h]; exact .inl rfl
    · rw [if_neg h]; exact next_power h a
  · intro h
    rw [eX]
    subst h
    have p0 : parseN (⟨#[48]⟩ : ByteArray).data.toList = some (false, [], 0) := by kernel_rfl
    exact cmp_same (by rw [px, p0, zero_at])
end Go.Proofs.YtkdejdmmgjibmaaDoor
