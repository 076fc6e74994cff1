/-
  The reference's sign, Cmp, walked: just dec's order. Condition: texts of at most 1000 bytes.
-/
import Derived.Test.YtkdejdmmgjibmaaDoorRefCanon
import Derived.Test.YtkdejdmmgjibmaaDoorDecLaws
namespace Go.Proofs.YtkdejdmmgjibmaaDoor
open Go.RowKit
set_option linter.unusedVariables false
set_option linter.unusedSimpArgs false
set_option maxHeartbeats 1000000 in
theorem rsign_any (b : Bool) (D : ByteArray) (w : World) : Calls Tryd.prog 32 #[.bool b, .string D] w fun e w' => e = .returned (.int .i64 (signN (b, D.data.toList, 0))) ∧ w' = w := by
  unfold signN
  by_cases hD : D.toList = []
  · have hie : D.toList.isEmpty = true := by simp [hD]
    rw [if_pos (ba_nil hD)]
    go_enter Tryd.func32, Tryd.ntmps32
    go_wp2
    go_ret
    exact ⟨rfl, rfl⟩
  · have hie : D.toList.isEmpty = false := by simp [hD]
    rw [if_neg (ba_nn hD)]
    cases b
    · go_enter Tryd.func32, Tryd.ntmps32
      go_wp2
      go_ret
      exact ⟨rfl, rfl⟩
    · go_enter Tryd.func32, Tryd.ntmps32
      go_wp2
      go_ret
      exact ⟨rfl, rfl⟩
set_option maxHeartbeats 1000000 in
      theorem rcmp_nn (a b : ByteArray) (w : World) (na : ∀ V, Calls Tryd.prog 16 #[.string a] V fun e w' => e = .returned (.bool false) ∧ w' = V) (nb : ∀ V, Calls Tryd.prog 16 #[.string b] V fun e w' => e = .returned (.bool false) ∧ w' = V) : Calls Tryd.prog 19 #[.string a, .string b] w fun e w' => e = .returned (.int .i64 (0)) ∧ w' = w := by
        have NA := Lib.hid na
        have NB := Lib.hid nb
        clear na nb
        go_enter Tryd.func19, Tryd.ntmps19
        go_wp2_with (go_at_call 16; (first | with_reducible (refine (NA.out _).mono ?_) | with_reducible (refine (NB.out _).mono ?_)); rintro e w1 ⟨rfl, hw⟩; rw [hw]; clear hw)
        go_ret
        exact ⟨rfl, rfl⟩
set_option maxHeartbeats 1000000 in
theorem rcmp_ny (a b : ByteArray) (w : World) (na : ∀ V, Calls Tryd.prog 16 #[.string a] V fun e w' => e = .returned (.bool false) ∧ w' = V) (nb : ∀ V, Calls Tryd.prog 16 #[.string b] V fun e w' => e = .returned (.bool true) ∧ w' = V) : Calls Tryd.prog 19 #[.string a, .string b] w fun e w' => e = .returned (.int .i64 (-1)) ∧ w' = w := by
  have NA := Lib.hid na
  have NB := Lib.hid nb
  clear na nb
  go_enter Tryd.func19, Tryd.ntmps19
  go_wp2_with (go_at_call 16; (first | with_reducible (refine (NA.out _).mono ?_) | with_reducible (refine (NB.out _).mono ?_)); rintro e w1 ⟨rfl, hw⟩; rw [hw]; clear hw)
  go_ret
  exact ⟨rfl, rfl⟩
set_option maxHeartbeats 1000000 in
theorem rcmp_yn (a b : ByteArray) (w : World) (na : ∀ V, Calls Tryd.prog 16 #[.string a] V fun e w' => e = .returned (.bool true) ∧ w' = V) (nb : ∀ V, Calls Tryd.prog 16 #[.string b] V fun e w' => e = .returned (.bool false) ∧ w' = V) : Calls Tryd.prog 19 #[.string a, .string b] w fun e w' => e = .returned (.int .i64 (1)) ∧ w' = w := by
  have NA := Lib.hid na
  have NB := Lib.hid nb
  clear na nb
  go_enter Tryd.func19, Tryd.ntmps19
  go_wp2_with (go_at_call 16; (first | with_reducible (refine (NA.out _).mono ?_) | with_reducible (refine (NB.out _).mono ?_)); rintro e w1 ⟨rfl, hw⟩; rw [hw]; clear hw)
  go_ret
  exact ⟨rfl, rfl⟩
set_option maxRecDepth 100000 in
set_option maxHeartbeats 4000000 in
theorem rcmp_eq (a b : ByteArray) (w : World) (na : ∀ V, Calls Tryd.prog 16 #[.string a] V fun e w' => e = .returned (.bool true) ∧ w' = V) (nb : ∀ V, Calls Tryd.prog 16 #[.string b] V fun e w' => e = .returned (.bool true) ∧ w' = V)
    (p q : Bool) (D E : ByteArray) (n m s t : Int) (ca : ∀ V, Calls Tryd.prog 29 #[.string a] V fun e w' => e = .returned (.tuple #[.bool p, .string D, .int .i64 n]) ∧ w' = V) (cb : ∀ V, Calls Tryd.prog 29 #[.string b] V fun e w' => e = .returned (.tuple #[.bool q, .string E, .int .i64 m]) ∧ w' = V)
    (sa : ∀ V, Calls Tryd.prog 32 #[.bool p, .string D] V fun e w' => e = .returned (.int .i64 s) ∧ w' = V) (sb : ∀ V, Calls Tryd.prog 32 #[.bool q, .string E] V fun e w' => e = .returned (.int .i64 t) ∧ w' = V) (h1 : D.toList = E.toList) (h2 : p = q) (h3 : n = m) :
    Calls Tryd.prog 19 #[.string a, .string b] w fun e w' => e = .returned (.int .i64 (0)) ∧ w' = w := by
  cases p <;> cases q <;>
  (have NA := Lib.hid na; have NB := Lib.hid nb; have CA := Lib.hid ca; have CB := Lib.hid cb; have SA := Lib.hid sa; have SB := Lib.hid sb
   clear na nb ca cb sa sb
   go_enter Tryd.func19, Tryd.ntmps19
   go_wp2_with (first | (go_at_call 16; (first | with_reducible (refine (NA.out _).mono ?_) | with_reducible (refine (NB.out _).mono ?_)); rintro e w1 ⟨rfl, hw⟩; rw [hw]; clear hw) | (go_at_call 29; (first | with_reducible (refine (CA.out _).mono ?_) | with_reducible (refine (CB.out _).mono ?_)); rintro e w1 ⟨rfl, hw⟩; rw [hw]; clear hw) | (go_at_call 32; (first | with_reducible (refine (SA.out _).mono ?_) | with_reducible (refine (SB.out _).mono ?_)); rintro e w1 ⟨rfl, hw⟩; rw [hw]; clear hw))
   all_goals first | (go_ret; exact ⟨rfl, rfl⟩) | (exfalso; simp_all; done) | (exfalso; simp_all; omega))
set_option maxRecDepth 100000 in
set_option maxHeartbeats 4000000 in
theorem rcmp_lt (a b : ByteArray) (w : World) (na : ∀ V, Calls Tryd.prog 16 #[.string a] V fun e w' => e = .returned (.bool true) ∧ w' = V) (nb : ∀ V, Calls Tryd.prog 16 #[.string b] V fun e w' => e = .returned (.bool true) ∧ w' = V)
    (p q : Bool) (D E : ByteArray) (n m s t : Int) (ca : ∀ V, Calls Tryd.prog 29 #[.string a] V fun e w' => e = .returned (.tuple #[.bool p, .string D, .int .i64 n]) ∧ w' = V) (cb : ∀ V, Calls Tryd.prog 29 #[.string b] V fun e w' => e = .returned (.tuple #[.bool q, .string E, .int .i64 m]) ∧ w' = V)
    (sa : ∀ V, Calls Tryd.prog 32 #[.bool p, .string D] V fun e w' => e = .returned (.int .i64 s) ∧ w' = V) (sb : ∀ V, Calls Tryd.prog 32 #[.bool q, .string E] V fun e w' => e = .returned (.int .i64 t) ∧ w' = V) (hne : ¬ (D.toList = E.toList ∧ p = q ∧ n = m)) (h1 : s < t) :
    Calls Tryd.prog 19 #[.string a, .string b] w fun e w' => e = .returned (.int .i64 (-1)) ∧ w' = w := by
  cases p <;> cases q <;>
  (have NA := Lib.hid na; have NB := Lib.hid nb; have CA := Lib.hid ca; have CB := Lib.hid cb; have SA := Lib.hid sa; have SB := Lib.hid sb
   clear na nb ca cb sa sb
   go_enter Tryd.func19, Tryd.ntmps19
   go_wp2_with (first | (go_at_call 16; (first | with_reducible (refine (NA.out _).mono ?_) | with_reducible (refine (NB.out _).mono ?_)); rintro e w1 ⟨rfl, hw⟩; rw [hw]; clear hw) | (go_at_call 29; (first | with_reducible (refine (CA.out _).mono ?_) | with_reducible (refine (CB.out _).mono ?_)); rintro e w1 ⟨rfl, hw⟩; rw [hw]; clear hw) | (go_at_call 32; (first | with_reducible (refine (SA.out _).mono ?_) | with_reducible (refine (SB.out _).mono ?_)); rintro e w1 ⟨rfl, hw⟩; rw [hw]; clear hw))
   all_goals first | (go_ret; exact ⟨rfl, rfl⟩) | (exfalso; simp_all; done) | (exfalso; simp_all; omega))
set_option maxRecDepth 100000 in
set_option maxHeartbeats 4000000 in
theorem rcmp_gt (a b : ByteArray) (w : World) (na : ∀ V, Calls Tryd.prog 16 #[.string a] V fun e w' => e = .returned (.bool true) ∧ w' = V) (nb : ∀ V, Calls Tryd.prog 16 #[.string b] V fun e w' => e = .returned (.bool true) ∧ w' = V)
    (p q : Bool) (D E : ByteArray) (n m s t : Int) (ca : ∀ V, Calls Tryd.prog 29 #[.string a] V fun e w' => e = .returned (.tuple #[.bool p, .string D, .int .i64 n]) ∧ w' = V) (cb : ∀ V, Calls Tryd.prog 29 #[.string b] V fun e w' => e = .returned (.tuple #[.bool q, .string E, .int .i64 m]) ∧ w' = V)
    (sa : ∀ V, Calls Tryd.prog 32 #[.bool p, .string D] V fun e w' => e = .returned (.int .i64 s) ∧ w' = V) (sb : ∀ V, Calls Tryd.prog 32 #[.bool q, .string E] V fun e w' => e = .returned (.int .i64 t) ∧ w' = V) (hne : ¬ (D.toList = E.toList ∧ p = q ∧ n = m)) (h1 : t < s) :
    Calls Tryd.prog 19 #[.string a, .string b] w fun e w' => e = .returned (.int .i64 (1)) ∧ w' = w := by
  cases p <;> cases q <;>
  (have NA := Lib.hid na; have NB := Lib.hid nb; have CA := Lib.hid ca; have CB := Lib.hid cb; have SA := Lib.hid sa; have SB := Lib.hid sb
   clear na nb ca cb sa sb
   go_enter Tryd.func19, Tryd.ntmps19
   go_wp2_with (first | (go_at_call 16; (first | with_reducible (refine (NA.out _).mono ?_) | with_reducible (refine (NB.out _).mono ?_)); rintro e w1 ⟨rfl, hw⟩; rw [hw]; clear hw) | (go_at_call 29; (first | with_reducible (refine (CA.out _).mono ?_) | with_reducible (refine (CB.out _).mono ?_)); rintro e w1 ⟨rfl, hw⟩; rw [hw]; clear hw) | (go_at_call 32; (first | with_reducible (refine (SA.out _).mono ?_) | with_reducible (refine (SB.out _).mono ?_)); rintro e w1 ⟨rfl, hw⟩; rw [hw]; clear hw))
   all_goals first | (go_ret; exact ⟨rfl, rfl⟩) | (exfalso; simp_all; done) | (exfalso; simp_all; omega))
set_option maxRecDepth 100000 in
set_option maxHeartbeats 4000000 in
theorem rcmp_ap (a b : ByteArray) (w : World) (na : ∀ V, Calls Tryd.prog 16 #[.string a] V fun e w' => e = .returned (.bool true) ∧ w' = V) (nb : ∀ V, Calls Tryd.prog 16 #[.string b] V fun e w' => e = .returned (.bool true) ∧ w' = V)
    (p q : Bool) (D E : ByteArray) (n m s t : Int) (ca : ∀ V, Calls Tryd.prog 29 #[.string a] V fun e w' => e = .returned (.tuple #[.bool p, .string D, .int .i64 n]) ∧ w' = V) (cb : ∀ V, Calls Tryd.prog 29 #[.string b] V fun e w' => e = .returned (.tuple #[.bool q, .string E, .int .i64 m]) ∧ w' = V)
    (sa : ∀ V, Calls Tryd.prog 32 #[.bool p, .string D] V fun e w' => e = .returned (.int .i64 s) ∧ w' = V) (sb : ∀ V, Calls Tryd.prog 32 #[.bool q, .string E] V fun e w' => e = .returned (.int .i64 t) ∧ w' = V) (h1 : s = t) (h2 : n < m) (h3 : 0 < t) :
    Calls Tryd.prog 19 #[.string a, .string b] w fun e w' => e = .returned (.int .i64 (-1)) ∧ w' = w := by
  cases p <;> cases q <;>
  (have NA := Lib.hid na; have NB := Lib.hid nb; have CA := Lib.hid ca; have CB := Lib.hid cb; have SA := Lib.hid sa; have SB := Lib.hid sb
   clear na nb ca cb sa sb
   go_enter Tryd.func19, Tryd.ntmps19
   go_wp2_with (first | (go_at_call 16; (first | with_reducible (refine (NA.out _).mono ?_) | with_reducible (refine (NB.out _).mono ?_)); rintro e w1 ⟨rfl, hw⟩; rw [hw]; clear hw) | (go_at_call 29; (first | with_reducible (refine (CA.out _).mono ?_) | with_reducible (refine (CB.out _).mono ?_)); rintro e w1 ⟨rfl, hw⟩; rw [hw]; clear hw) | (go_at_call 32; (first | with_reducible (refine (SA.out _).mono ?_) | with_reducible (refine (SB.out _).mono ?_)); rintro e w1 ⟨rfl, hw⟩; rw [hw]; clear hw))
   all_goals first | (go_ret; exact ⟨rfl, rfl⟩) | (exfalso; simp_all; done) | (exfalso; simp_all; omega))
set_option maxRecDepth 100000 in
set_option maxHeartbeats 4000000 in
theorem rcmp_am (a b : ByteArray) (w : World) (na : ∀ V, Calls Tryd.prog 16 #[.string a] V fun e w' => e = .returned (.bool true) ∧ w' = V) (nb : ∀ V, Calls Tryd.prog 16 #[.string b] V fun e w' => e = .returned (.bool true) ∧ w' = V)
    (p q : Bool) (D E : ByteArray) (n m s t : Int) (ca : ∀ V, Calls Tryd.prog 29 #[.string a] V fun e w' => e = .returned (.tuple #[.bool p, .string D, .int .i64 n]) ∧ w' = V) (cb : ∀ V, Calls Tryd.prog 29 #[.string b] V fun e w' => e = .returned (.tuple #[.bool q, .string E, .int .i64 m]) ∧ w' = V)
    (sa : ∀ V, Calls Tryd.prog 32 #[.bool p, .string D] V fun e w' => e = .returned (.int .i64 s) ∧ w' = V) (sb : ∀ V, Calls Tryd.prog 32 #[.bool q, .string E] V fun e w' => e = .returned (.int .i64 t) ∧ w' = V) (h1 : s = t) (h2 : n < m) (h3 : t ≤ 0) :
    Calls Tryd.prog 19 #[.string a, .string b] w fun e w' => e = .returned (.int .i64 (1)) ∧ w' = w := by
  cases p <;> cases q <;>
  (have NA := Lib.hid na; have NB := Lib.hid nb; have CA := Lib.hid ca; have CB := Lib.hid cb; have SA := Lib.hid sa; have SB := Lib.hid sb
   clear na nb ca cb sa sb
   go_enter Tryd.func19, Tryd.ntmps19
   go_wp2_with (first | (go_at_call 16; (first | with_reducible (refine (NA.out _).mono ?_) | with_reducible (refine (NB.out _).mono ?_)); rintro e w1 ⟨rfl, hw⟩; rw [hw]; clear hw) | (go_at_call 29; (first | with_reducible (refine (CA.out _).mono ?_) | with_reducible (refine (CB.out _).mono ?_)); rintro e w1 ⟨rfl, hw⟩; rw [hw]; clear hw) | (go_at_call 32; (first | with_reducible (refine (SA.out _).mono ?_) | with_reducible (refine (SB.out _).mono ?_)); rintro e w1 ⟨rfl, hw⟩; rw [hw]; clear hw))
   all_goals first | (go_ret; exact ⟨rfl, rfl⟩) | (exfalso; simp_all; done) | (exfalso; simp_all; omega))
set_option maxRecDepth 100000 in
set_option maxHeartbeats 4000000 in
theorem rcmp_bp (a b : ByteArray) (w : World) (na : ∀ V, Calls Tryd.prog 16 #[.string a] V fun e w' => e = .returned (.bool true) ∧ w' = V) (nb : ∀ V, Calls Tryd.prog 16 #[.string b] V fun e w' => e = .returned (.bool true) ∧ w' = V)
    (p q : Bool) (D E : ByteArray) (n m s t : Int) (ca : ∀ V, Calls Tryd.prog 29 #[.string a] V fun e w' => e = .returned (.tuple #[.bool p, .string D, .int .i64 n]) ∧ w' = V) (cb : ∀ V, Calls Tryd.prog 29 #[.string b] V fun e w' => e = .returned (.tuple #[.bool q, .string E, .int .i64 m]) ∧ w' = V)
    (sa : ∀ V, Calls Tryd.prog 32 #[.bool p, .string D] V fun e w' => e = .returned (.int .i64 s) ∧ w' = V) (sb : ∀ V, Calls Tryd.prog 32 #[.bool q, .string E] V fun e w' => e = .returned (.int .i64 t) ∧ w' = V) (h1 : s = t) (h2 : m < n) (h3 : 0 < t) :
    Calls Tryd.prog 19 #[.string a, .string b] w fun e w' => e = .returned (.int .i64 (1)) ∧ w' = w := by
  cases p <;> cases q <;>
  (have NA := Lib.hid na; have NB := Lib.hid nb; have CA := Lib.hid ca; have CB := Lib.hid cb; have SA := Lib.hid sa; have SB := Lib.hid sb
   clear na nb ca cb sa sb
   go_enter Tryd.func19, Tryd.ntmps19
   go_wp2_with (first | (go_at_call 16; (first | with_reducible (refine (NA.out _).mono ?_) | with_reducible (refine (NB.out _).mono ?_)); rintro e w1 ⟨rfl, hw⟩; rw [hw]; clear hw) | (go_at_call 29; (first | with_reducible (refine (CA.out _).mono ?_) | with_reducible (refine (CB.out _).mono ?_)); rintro e w1 ⟨rfl, hw⟩; rw [hw]; clear hw) | (go_at_call 32; (first | with_reducible (refine (SA.out _).mono ?_) | with_reducible (refine (SB.out _).mono ?_)); rintro e w1 ⟨rfl, hw⟩; rw [hw]; clear hw))
   all_goals first | (go_ret; exact ⟨rfl, rfl⟩) | (exfalso; simp_all; done) | (exfalso; simp_all; omega))
set_option maxRecDepth 100000 in
set_option maxHeartbeats 4000000 in
theorem rcmp_bm (a b : ByteArray) (w : World) (na : ∀ V, Calls Tryd.prog 16 #[.string a] V fun e w' => e = .returned (.bool true) ∧ w' = V) (nb : ∀ V, Calls Tryd.prog 16 #[.string b] V fun e w' => e = .returned (.bool true) ∧ w' = V)
    (p q : Bool) (D E : ByteArray) (n m s t : Int) (ca : ∀ V, Calls Tryd.prog 29 #[.string a] V fun e w' => e = .returned (.tuple #[.bool p, .string D, .int .i64 n]) ∧ w' = V) (cb : ∀ V, Calls Tryd.prog 29 #[.string b] V fun e w' => e = .returned (.tuple #[.bool q, .string E, .int .i64 m]) ∧ w' = V)
    (sa : ∀ V, Calls Tryd.prog 32 #[.bool p, .string D] V fun e w' => e = .returned (.int .i64 s) ∧ w' = V) (sb : ∀ V, Calls Tryd.prog 32 #[.bool q, .string E] V fun e w' => e = .returned (.int .i64 t) ∧ w' = V) (h1 : s = t) (h2 : m < n) (h3 : t ≤ 0) :
    Calls Tryd.prog 19 #[.string a, .string b] w fun e w' => e = .returned (.int .i64 (-1)) ∧ w' = w := by
  cases p <;> cases q <;>
  (have NA := Lib.hid na; have NB := Lib.hid nb; have CA := Lib.hid ca; have CB := Lib.hid cb; have SA := Lib.hid sa; have SB := Lib.hid sb
   clear na nb ca cb sa sb
   go_enter Tryd.func19, Tryd.ntmps19
   go_wp2_with (first | (go_at_call 16; (first | with_reducible (refine (NA.out _).mono ?_) | with_reducible (refine (NB.out _).mono ?_)); rintro e w1 ⟨rfl, hw⟩; rw [hw]; clear hw) | (go_at_call 29; (first | with_reducible (refine (CA.out _).mono ?_) | with_reducible (refine (CB.out _).mono ?_)); rintro e w1 ⟨rfl, hw⟩; rw [hw]; clear hw) | (go_at_call 32; (first | with_reducible (refine (SA.out _).mono ?_) | with_reducible (refine (SB.out _).mono ?_)); rintro e w1 ⟨rfl, hw⟩; rw [hw]; clear hw))
   all_goals first | (go_ret; exact ⟨rfl, rfl⟩) | (exfalso; simp_all; done) | (exfalso; simp_all; omega))
set_option maxRecDepth 100000 in
set_option maxHeartbeats 4000000 in
theorem rcmp_ctp (a b : ByteArray) (w : World) (na : ∀ V, Calls Tryd.prog 16 #[.string a] V fun e w' => e = .returned (.bool true) ∧ w' = V) (nb : ∀ V, Calls Tryd.prog 16 #[.string b] V fun e w' => e = .returned (.bool true) ∧ w' = V)
    (p q : Bool) (D E : ByteArray) (n m s t : Int) (ca : ∀ V, Calls Tryd.prog 29 #[.string a] V fun e w' => e = .returned (.tuple #[.bool p, .string D, .int .i64 n]) ∧ w' = V) (cb : ∀ V, Calls Tryd.prog 29 #[.string b] V fun e w' => e = .returned (.tuple #[.bool q, .string E, .int .i64 m]) ∧ w' = V)
    (sa : ∀ V, Calls Tryd.prog 32 #[.bool p, .string D] V fun e w' => e = .returned (.int .i64 s) ∧ w' = V) (sb : ∀ V, Calls Tryd.prog 32 #[.bool q, .string E] V fun e w' => e = .returned (.int .i64 t) ∧ w' = V) (h0 : ¬ D.toList = E.toList) (h1 : s = t) (h2 : n = m) (h3 : 0 < t) (h4 : Op.bytesLess D.toList E.toList = true) :
    Calls Tryd.prog 19 #[.string a, .string b] w fun e w' => e = .returned (.int .i64 (-1)) ∧ w' = w := by
  cases p <;> cases q <;>
  (have NA := Lib.hid na; have NB := Lib.hid nb; have CA := Lib.hid ca; have CB := Lib.hid cb; have SA := Lib.hid sa; have SB := Lib.hid sb
   clear na nb ca cb sa sb
   go_enter Tryd.func19, Tryd.ntmps19
   go_wp2_with (first | (go_at_call 16; (first | with_reducible (refine (NA.out _).mono ?_) | with_reducible (refine (NB.out _).mono ?_)); rintro e w1 ⟨rfl, hw⟩; rw [hw]; clear hw) | (go_at_call 29; (first | with_reducible (refine (CA.out _).mono ?_) | with_reducible (refine (CB.out _).mono ?_)); rintro e w1 ⟨rfl, hw⟩; rw [hw]; clear hw) | (go_at_call 32; (first | with_reducible (refine (SA.out _).mono ?_) | with_reducible (refine (SB.out _).mono ?_)); rintro e w1 ⟨rfl, hw⟩; rw [hw]; clear hw))
   all_goals first | (go_ret; exact ⟨rfl, rfl⟩) | (exfalso; simp_all; done) | (exfalso; simp_all; omega))
set_option maxRecDepth 100000 in
set_option maxHeartbeats 4000000 in
theorem rcmp_ctm (a b : ByteArray) (w : World) (na : ∀ V, Calls Tryd.prog 16 #[.string a] V fun e w' => e = .returned (.bool true) ∧ w' = V) (nb : ∀ V, Calls Tryd.prog 16 #[.string b] V fun e w' => e = .returned (.bool true) ∧ w' = V)
    (p q : Bool) (D E : ByteArray) (n m s t : Int) (ca : ∀ V, Calls Tryd.prog 29 #[.string a] V fun e w' => e = .returned (.tuple #[.bool p, .string D, .int .i64 n]) ∧ w' = V) (cb : ∀ V, Calls Tryd.prog 29 #[.string b] V fun e w' => e = .returned (.tuple #[.bool q, .string E, .int .i64 m]) ∧ w' = V)
    (sa : ∀ V, Calls Tryd.prog 32 #[.bool p, .string D] V fun e w' => e = .returned (.int .i64 s) ∧ w' = V) (sb : ∀ V, Calls Tryd.prog 32 #[.bool q, .string E] V fun e w' => e = .returned (.int .i64 t) ∧ w' = V) (h0 : ¬ D.toList = E.toList) (h1 : s = t) (h2 : n = m) (h3 : t ≤ 0) (h4 : Op.bytesLess D.toList E.toList = true) :
    Calls Tryd.prog 19 #[.string a, .string b] w fun e w' => e = .returned (.int .i64 (1)) ∧ w' = w := by
  cases p <;> cases q <;>
  (have NA := Lib.hid na; have NB := Lib.hid nb; have CA := Lib.hid ca; have CB := Lib.hid cb; have SA := Lib.hid sa; have SB := Lib.hid sb
   clear na nb ca cb sa sb
   go_enter Tryd.func19, Tryd.ntmps19
   go_wp2_with (first | (go_at_call 16; (first | with_reducible (refine (NA.out _).mono ?_) | with_reducible (refine (NB.out _).mono ?_)); rintro e w1 ⟨rfl, hw⟩; rw [hw]; clear hw) | (go_at_call 29; (first | with_reducible (refine (CA.out _).mono ?_) | with_reducible (refine (CB.out _).mono ?_)); rintro e w1 ⟨rfl, hw⟩; rw [hw]; clear hw) | (go_at_call 32; (first | with_reducible (refine (SA.out _).mono ?_) | with_reducible (refine (SB.out _).mono ?_)); rintro e w1 ⟨rfl, hw⟩; rw [hw]; clear hw))
   all_goals first | (go_ret; exact ⟨rfl, rfl⟩) | (exfalso; simp_all; done) | (exfalso; simp_all; omega))
set_option maxRecDepth 100000 in
set_option maxHeartbeats 4000000 in
theorem rcmp_cfp (a b : ByteArray) (w : World) (na : ∀ V, Calls Tryd.prog 16 #[.string a] V fun e w' => e = .returned (.bool true) ∧ w' = V) (nb : ∀ V, Calls Tryd.prog 16 #[.string b] V fun e w' => e = .returned (.bool true) ∧ w' = V)
    (p q : Bool) (D E : ByteArray) (n m s t : Int) (ca : ∀ V, Calls Tryd.prog 29 #[.string a] V fun e w' => e = .returned (.tuple #[.bool p, .string D, .int .i64 n]) ∧ w' = V) (cb : ∀ V, Calls Tryd.prog 29 #[.string b] V fun e w' => e = .returned (.tuple #[.bool q, .string E, .int .i64 m]) ∧ w' = V)
    (sa : ∀ V, Calls Tryd.prog 32 #[.bool p, .string D] V fun e w' => e = .returned (.int .i64 s) ∧ w' = V) (sb : ∀ V, Calls Tryd.prog 32 #[.bool q, .string E] V fun e w' => e = .returned (.int .i64 t) ∧ w' = V) (h0 : ¬ D.toList = E.toList) (h1 : s = t) (h2 : n = m) (h3 : 0 < t) (h4 : Op.bytesLess D.toList E.toList = false) :
    Calls Tryd.prog 19 #[.string a, .string b] w fun e w' => e = .returned (.int .i64 (1)) ∧ w' = w := by
  cases p <;> cases q <;>
  (have NA := Lib.hid na; have NB := Lib.hid nb; have CA := Lib.hid ca; have CB := Lib.hid cb; have SA := Lib.hid sa; have SB := Lib.hid sb
   clear na nb ca cb sa sb
   go_enter Tryd.func19, Tryd.ntmps19
   go_wp2_with (first | (go_at_call 16; (first | with_reducible (refine (NA.out _).mono ?_) | with_reducible (refine (NB.out _).mono ?_)); rintro e w1 ⟨rfl, hw⟩; rw [hw]; clear hw) | (go_at_call 29; (first | with_reducible (refine (CA.out _).mono ?_) | with_reducible (refine (CB.out _).mono ?_)); rintro e w1 ⟨rfl, hw⟩; rw [hw]; clear hw) | (go_at_call 32; (first | with_reducible (refine (SA.out _).mono ?_) | with_reducible (refine (SB.out _).mono ?_)); rintro e w1 ⟨rfl, hw⟩; rw [hw]; clear hw))
   all_goals first | (go_ret; exact ⟨rfl, rfl⟩) | (exfalso; simp_all; done) | (exfalso; simp_all; omega))
set_option maxRecDepth 100000 in
set_option maxHeartbeats 4000000 in
theorem rcmp_cfm (a b : ByteArray) (w : World) (na : ∀ V, Calls Tryd.prog 16 #[.string a] V fun e w' => e = .returned (.bool true) ∧ w' = V) (nb : ∀ V, Calls Tryd.prog 16 #[.string b] V fun e w' => e = .returned (.bool true) ∧ w' = V)
    (p q : Bool) (D E : ByteArray) (n m s t : Int) (ca : ∀ V, Calls Tryd.prog 29 #[.string a] V fun e w' => e = .returned (.tuple #[.bool p, .string D, .int .i64 n]) ∧ w' = V) (cb : ∀ V, Calls Tryd.prog 29 #[.string b] V fun e w' => e = .returned (.tuple #[.bool q, .string E, .int .i64 m]) ∧ w' = V)
    (sa : ∀ V, Calls Tryd.prog 32 #[.bool p, .string D] V fun e w' => e = .returned (.int .i64 s) ∧ w' = V) (sb : ∀ V, Calls Tryd.prog 32 #[.bool q, .string E] V fun e w' => e = .returned (.int .i64 t) ∧ w' = V) (h0 : ¬ D.toList = E.toList) (h1 : s = t) (h2 : n = m) (h3 : t ≤ 0) (h4 : Op.bytesLess D.toList E.toList = false) :
    Calls Tryd.prog 19 #[.string a, .string b] w fun e w' => e = .returned (.int .i64 (-1)) ∧ w' = w := by
  cases p <;> cases q <;>
  (have NA := Lib.hid na; have NB := Lib.hid nb; have CA := Lib.hid ca; have CB := Lib.hid cb; have SA := Lib.hid sa; have SB := Lib.hid sb
   clear na nb ca cb sa sb
   go_enter Tryd.func19, Tryd.ntmps19
   go_wp2_with (first | (go_at_call 16; (first | with_reducible (refine (NA.out _).mono ?_) | with_reducible (refine (NB.out _).mono ?_)); rintro e w1 ⟨rfl, hw⟩; rw [hw]; clear hw) | (go_at_call 29; (first | with_reducible (refine (CA.out _).mono ?_) | with_reducible (refine (CB.out _).mono ?_)); rintro e w1 ⟨rfl, hw⟩; rw [hw]; clear hw) | (go_at_call 32; (first | with_reducible (refine (SA.out _).mono ?_) | with_reducible (refine (SB.out _).mono ?_)); rintro e w1 ⟨rfl, hw⟩; rw [hw]; clear hw))
   all_goals first | (go_ret; exact ⟨rfl, rfl⟩) | (exfalso; simp_all; done) | (exfalso; simp_all; omega))
end Go.Proofs.YtkdejdmmgjibmaaDoor
