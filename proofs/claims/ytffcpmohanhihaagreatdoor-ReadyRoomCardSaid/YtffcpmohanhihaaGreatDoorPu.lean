/-
  utf's functions, printed: each in plain Lean, with its walk. No condition.
-/
import Derived.Test.YtffcpmohanhihaaGreatDoorPw
namespace Go.Proofs.YtffcpmohanhihaaGreatDoor
open Go.RowKit
set_option linter.unusedVariables false
set_option linter.unusedSimpArgs false
/-! ### utf_begins -/
def utf_begins.f (a0 : Int) : Option (Int × Int) := if a0 < 128 then (some (1, wrap64 (a0))) else (if a0 < 192 then (some (0, 0)) else (if a0 < 224 then (some (2, wrap64 (Go.bits .andNot .u8 a0 192))) else (if a0 < 240 then (some (3, wrap64 (Go.bits .andNot .u8 a0 224))) else (if a0 < 248 then (some (4, wrap64 (Go.bits .andNot .u8 a0 240))) else (some (0, 0))))))
set_option maxHeartbeats 8000000 in
set_option maxRecDepth 100000 in
theorem utf_begins.calls (a0 : Int) (r1 : Int) (r2 : Int) (w : World) (h : utf_begins.f a0 = some (r1, r2)) :
    Calls Tryz.prog 111 #[.int .u8 a0] w fun e w' => e = .returned (.tuple #[.int .i64 r1, .int .i64 r2]) ∧ Drawn0 w w' := by
  have H : (if a0 < 128 then (some (1, wrap64 (a0))) else (if a0 < 192 then (some (0, 0)) else (if a0 < 224 then (some (2, wrap64 (Go.bits .andNot .u8 a0 192))) else (if a0 < 240 then (some (3, wrap64 (Go.bits .andNot .u8 a0 224))) else (if a0 < 248 then (some (4, wrap64 (Go.bits .andNot .u8 a0 240))) else (some (0, 0))))))) = some (r1, r2) := h
  clear h
  by_cases c2 : a0 < 128
  · rw [if_pos c2] at H
    have c2b0 : decide (a0 < 128) = true := decide_eq_true c2
    clear c2
    simp only [Option.some.injEq, Prod.mk.injEq] at H
    obtain ⟨rfl, rfl⟩ := H
    go_enter Tryz.func111, Tryz.ntmps111
    go_wp2
    go_ret2
    exact ⟨by first | rfl | (simp; done) | (simp [*]; done), by repeat (first | exact Drawn0.refl _ | apply Drawn0.step)⟩
  · rw [if_neg c2] at H
    have c2b0 : decide (a0 < 128) = false := decide_eq_false c2
    clear c2
    by_cases c3 : a0 < 192
    · rw [if_pos c3] at H
      have c3b0 : decide (a0 < 192) = true := decide_eq_true c3
      clear c3
      simp only [Option.some.injEq, Prod.mk.injEq] at H
      obtain ⟨rfl, rfl⟩ := H
      go_enter Tryz.func111, Tryz.ntmps111
      go_wp2
      go_ret2
      exact ⟨by first | rfl | (simp; done) | (simp [*]; done), by repeat (first | exact Drawn0.refl _ | apply Drawn0.step)⟩
    · rw [if_neg c3] at H
      have c3b0 : decide (a0 < 192) = false := decide_eq_false c3
      clear c3
      by_cases c4 : a0 < 224
      · rw [if_pos c4] at H
        have c4b0 : decide (a0 < 224) = true := decide_eq_true c4
        clear c4
        simp only [Option.some.injEq, Prod.mk.injEq] at H
        obtain ⟨rfl, rfl⟩ := H
        go_enter Tryz.func111, Tryz.ntmps111
        go_wp2
        go_ret2
        exact ⟨by first | rfl | (simp; done) | (simp [*]; done), by repeat (first | exact Drawn0.refl _ | apply Drawn0.step)⟩
      · rw [if_neg c4] at H
        have c4b0 : decide (a0 < 224) = false := decide_eq_false c4
        clear c4
        by_cases c5 : a0 < 240
        · rw [if_pos c5] at H
          have c5b0 : decide (a0 < 240) = true := decide_eq_true c5
          clear c5
          simp only [Option.some.injEq, Prod.mk.injEq] at H
          obtain ⟨rfl, rfl⟩ := H
          go_enter Tryz.func111, Tryz.ntmps111
          go_wp2
          go_ret2
          exact ⟨by first | rfl | (simp; done) | (simp [*]; done), by repeat (first | exact Drawn0.refl _ | apply Drawn0.step)⟩
        · rw [if_neg c5] at H
          have c5b0 : decide (a0 < 240) = false := decide_eq_false c5
          clear c5
          by_cases c6 : a0 < 248
          · rw [if_pos c6] at H
            have c6b0 : decide (a0 < 248) = true := decide_eq_true c6
            clear c6
            simp only [Option.some.injEq, Prod.mk.injEq] at H
            obtain ⟨rfl, rfl⟩ := H
            go_enter Tryz.func111, Tryz.ntmps111
            go_wp2
            go_ret2
            exact ⟨by first | rfl | (simp; done) | (simp [*]; done), by repeat (first | exact Drawn0.refl _ | apply Drawn0.step)⟩
          · rw [if_neg c6] at H
            have c6b0 : decide (a0 < 248) = false := decide_eq_false c6
            clear c6
            simp only [Option.some.injEq, Prod.mk.injEq] at H
            obtain ⟨rfl, rfl⟩ := H
            go_enter Tryz.func111, Tryz.ntmps111
            go_wp2
            go_ret2
            exact ⟨by first | rfl | (simp; done) | (simp [*]; done), by repeat (first | exact Drawn0.refl _ | apply Drawn0.step)⟩

/-! ### utf_Good -/
def utf_Good.f (a0 : Int) : Option (Bool) := if a0 ≥ 0 then (if a0 ≤ 1114111 then (if a0 < 55296 then (some true) else (some (decide (a0 > 57343)))) else (some false)) else (some false)
set_option maxHeartbeats 8000000 in
set_option maxRecDepth 100000 in
theorem utf_Good.calls (a0 : Int) (r : Bool) (w : World) (h : utf_Good.f a0 = some r) :
    Calls Tryz.prog 112 #[.int .i64 a0] w fun e w' => e = .returned (.bool r) ∧ Drawn0 w w' := by
  have H : (if a0 ≥ 0 then (if a0 ≤ 1114111 then (if a0 < 55296 then (some true) else (some (decide (a0 > 57343)))) else (some false)) else (some false)) = some r := h
  clear h
  by_cases c2 : a0 ≥ 0
  · rw [if_pos c2] at H
    have c2b0 : decide (0 ≤ a0) = true := decide_eq_true c2
    clear c2
    by_cases c3 : a0 ≤ 1114111
    · rw [if_pos c3] at H
      have c3b0 : decide (a0 ≤ 1114111) = true := decide_eq_true c3
      clear c3
      by_cases c4 : a0 < 55296
      · rw [if_pos c4] at H
        have c4b0 : decide (a0 < 55296) = true := decide_eq_true c4
        clear c4
        obtain rfl := Option.some.inj H
        go_enter Tryz.func112, Tryz.ntmps112
        go_wp2
        go_ret
        exact ⟨by first | rfl | (simp; done) | (simp [*]; done), by repeat (first | exact Drawn0.refl _ | apply Drawn0.step)⟩
      · rw [if_neg c4] at H
        have c4b0 : decide (a0 < 55296) = false := decide_eq_false c4
        clear c4
        obtain rfl := Option.some.inj H
        go_enter Tryz.func112, Tryz.ntmps112
        go_wp2
        go_ret
        exact ⟨by first | rfl | (simp; done) | (simp [*]; done), by repeat (first | exact Drawn0.refl _ | apply Drawn0.step)⟩
    · rw [if_neg c3] at H
      have c3b0 : decide (a0 ≤ 1114111) = false := decide_eq_false c3
      clear c3
      obtain rfl := Option.some.inj H
      go_enter Tryz.func112, Tryz.ntmps112
      go_wp2
      go_ret
      exact ⟨by first | rfl | (simp; done) | (simp [*]; done), by repeat (first | exact Drawn0.refl _ | apply Drawn0.step)⟩
  · rw [if_neg c2] at H
    have c2b0 : decide (0 ≤ a0) = false := decide_eq_false c2
    clear c2
    obtain rfl := Option.some.inj H
    go_enter Tryz.func112, Tryz.ntmps112
    go_wp2
    go_ret
    exact ⟨by first | rfl | (simp; done) | (simp [*]; done), by repeat (first | exact Drawn0.refl _ | apply Drawn0.step)⟩

/-! ### utf_size -/
def utf_size.f (a0 : Int) : Option (Int) := if a0 < 128 then (some 1) else (if a0 < 2048 then (some 2) else (if a0 < 65536 then (some 3) else (some 4)))
set_option maxHeartbeats 8000000 in
set_option maxRecDepth 100000 in
theorem utf_size.calls (a0 : Int) (r : Int) (w : World) (h : utf_size.f a0 = some r) :
    Calls Tryz.prog 113 #[.int .i64 a0] w fun e w' => e = .returned (.int .i64 r) ∧ Drawn0 w w' := by
  have H : (if a0 < 128 then (some 1) else (if a0 < 2048 then (some 2) else (if a0 < 65536 then (some 3) else (some 4)))) = some r := h
  clear h
  by_cases c2 : a0 < 128
  · rw [if_pos c2] at H
    have c2b0 : decide (a0 < 128) = true := decide_eq_true c2
    clear c2
    obtain rfl := Option.some.inj H
    go_enter Tryz.func113, Tryz.ntmps113
    go_wp2
    go_ret
    exact ⟨by first | rfl | (simp; done) | (simp [*]; done), by repeat (first | exact Drawn0.refl _ | apply Drawn0.step)⟩
  · rw [if_neg c2] at H
    have c2b0 : decide (a0 < 128) = false := decide_eq_false c2
    clear c2
    by_cases c3 : a0 < 2048
    · rw [if_pos c3] at H
      have c3b0 : decide (a0 < 2048) = true := decide_eq_true c3
      clear c3
      obtain rfl := Option.some.inj H
      go_enter Tryz.func113, Tryz.ntmps113
      go_wp2
      go_ret
      exact ⟨by first | rfl | (simp; done) | (simp [*]; done), by repeat (first | exact Drawn0.refl _ | apply Drawn0.step)⟩
    · rw [if_neg c3] at H
      have c3b0 : decide (a0 < 2048) = false := decide_eq_false c3
      clear c3
      by_cases c4 : a0 < 65536
      · rw [if_pos c4] at H
        have c4b0 : decide (a0 < 65536) = true := decide_eq_true c4
        clear c4
        obtain rfl := Option.some.inj H
        go_enter Tryz.func113, Tryz.ntmps113
        go_wp2
        go_ret
        exact ⟨by first | rfl | (simp; done) | (simp [*]; done), by repeat (first | exact Drawn0.refl _ | apply Drawn0.step)⟩
      · rw [if_neg c4] at H
        have c4b0 : decide (a0 < 65536) = false := decide_eq_false c4
        clear c4
        obtain rfl := Option.some.inj H
        go_enter Tryz.func113, Tryz.ntmps113
        go_wp2
        go_ret
        exact ⟨by first | rfl | (simp; done) | (simp [*]; done), by repeat (first | exact Drawn0.refl _ | apply Drawn0.step)⟩

/-! ### utf_Take -/
mutual
def utf_Take.j0 : Nat → ByteArray → Int → Int → Bool → Option (Int × Int)
  | 0, _, _, _, _ => none
  | k + 1, x0, x4, x5, x22 => if x22 = true then (some (0, 0)) else (utf_Take.l0 k x0 x4 x5 1)
def utf_Take.l0 : Nat → ByteArray → Int → Int → Int → Option (Int × Int)
  | 0, _, _, _, _ => none
  | k + 1, x0, x4, x5, x6 => if x6 < x4 then (if 0 ≤ x6 then (if x6 < (x0.size : Int) then (if (Go.bits .and .u8 (bt x0 x6) 192) = 128 then (utf_Take.l0 k x0 x4 (Go.bits .or .i64 (wrap64 (x5 * 64)) (wrap64 (Go.bits .and .u8 (bt x0 x6) 63))) (wrap64 (x6 + 1))) else (some (0, 0))) else (none)) else (none)) else ((utf_Good.f x5).bind fun t105 => (if t105 = true then ((utf_size.f x5).bind fun t106 => (if t106 = x4 then (some (x5, x4)) else (some (0, 0)))) else (some (0, 0))))
end
def utf_Take.f (k : Nat) (a0 : ByteArray) : Option (Int × Int) := if a0.toList = ([] : List UInt8) then (some (0, 0)) else (if 0 < (a0.size : Int) then ((utf_begins.f (bt a0 0)).bind fun bt103 => (if bt103.1 = 0 then (utf_Take.j0 k a0 bt103.1 bt103.2 true) else (utf_Take.j0 k a0 bt103.1 bt103.2 (decide (bt103.1 > (a0.size : Int)))))) else (none))
theorem utf_Take.mono_l : ∀ k, (∀ y0 y1 y2 y3, LeO (utf_Take.j0 k y0 y1 y2 y3) (utf_Take.j0 (k + 1) y0 y1 y2 y3)) ∧ (∀ y0 y1 y2 y3, LeO (utf_Take.l0 k y0 y1 y2 y3) (utf_Take.l0 (k + 1) y0 y1 y2 y3))
  | 0 => ⟨fun _ _ _ _ r h => by simp [utf_Take.j0] at h, fun _ _ _ _ r h => by simp [utf_Take.l0] at h⟩
  | k + 1 => by
    obtain ⟨ih0, ih1⟩ := utf_Take.mono_l k
    refine ⟨?_, ?_⟩
    · intro y0 y1 y2 y3
      unfold utf_Take.j0
      repeat' first
      | (with_reducible exact ih0 _ _ _ _)
      | (with_reducible exact ih1 _ _ _ _)
      | (with_reducible exact LeO.refl _)
      | (with_reducible exact LeO.none _)
      | (with_reducible refine LeO.ite ?_ ?_)
      | (with_reducible refine LeO.bind ?_ (fun _ => ?_))
      | exact ih0 _ _ _ _
      | exact ih1 _ _ _ _
      | exact LeO.none _
      | refine LeO.ite ?_ ?_
      | refine LeO.bind ?_ (fun _ => ?_)
    · intro y0 y1 y2 y3
      unfold utf_Take.l0
      repeat' first
      | (with_reducible exact ih0 _ _ _ _)
      | (with_reducible exact ih1 _ _ _ _)
      | (with_reducible exact LeO.refl _)
      | (with_reducible exact LeO.none _)
      | (with_reducible refine LeO.ite ?_ ?_)
      | (with_reducible refine LeO.bind ?_ (fun _ => ?_))
      | exact ih0 _ _ _ _
      | exact ih1 _ _ _ _
      | exact LeO.none _
      | refine LeO.ite ?_ ?_
      | refine LeO.bind ?_ (fun _ => ?_)
theorem utf_Take.mono : ∀ a0 k, LeO (utf_Take.f k a0) (utf_Take.f (k + 1) a0) := by
  intro a0 k
  obtain ⟨ih0, ih1⟩ := utf_Take.mono_l k
  unfold utf_Take.f
  repeat' first
      | (with_reducible exact ih0 _ _ _ _)
      | (with_reducible exact ih1 _ _ _ _)
      | (with_reducible exact LeO.refl _)
      | (with_reducible exact LeO.none _)
      | (with_reducible refine LeO.ite ?_ ?_)
      | (with_reducible refine LeO.bind ?_ (fun _ => ?_))
      | exact ih0 _ _ _ _
      | exact ih1 _ _ _ _
      | exact LeO.none _
      | refine LeO.ite ?_ ?_
      | refine LeO.bind ?_ (fun _ => ?_)
set_option maxHeartbeats 8000000 in
set_option maxRecDepth 100000 in
theorem utf_Take.calls (k : Nat) (a0 : ByteArray) (r1 : Int) (r2 : Int) (w : World) (h : utf_Take.f k a0 = some (r1, r2)) :
    Calls Tryz.prog 97 #[.string a0] w fun e w' => e = .returned (.tuple #[.int .i64 r1, .int .i64 r2]) ∧ Drawn0 w w' := by
  have H : (if a0.toList = ([] : List UInt8) then (some (0, 0)) else (if 0 < (a0.size : Int) then ((utf_begins.f (bt a0 0)).bind fun bt103 => (if bt103.1 = 0 then (utf_Take.j0 k a0 bt103.1 bt103.2 true) else (utf_Take.j0 k a0 bt103.1 bt103.2 (decide (bt103.1 > (a0.size : Int)))))) else (none))) = some (r1, r2) := h
  clear h
  by_cases c2 : a0.toList = ([] : List UInt8)
  · rw [if_pos c2] at H
    have c2b0 : (a0.toList == ([] : List UInt8)) = true := beq_iff_eq.mpr c2
    have c2b1 : (a0.toList != ([] : List UInt8)) = false := bne_eq_false_iff_eq.mpr c2
    clear c2
    simp only [Option.some.injEq, Prod.mk.injEq] at H
    obtain ⟨rfl, rfl⟩ := H
    go_enter Tryz.func97, Tryz.ntmps97
    go_wp2
    go_ret2
    exact ⟨by first | rfl | (simp; done) | (simp [*]; done), by repeat (first | exact Drawn0.refl _ | apply Drawn0.step)⟩
  · rw [if_neg c2] at H
    have c2b0 : (a0.toList == ([] : List UInt8)) = false := beq_eq_false_iff_ne.mpr c2
    have c2b1 : (a0.toList != ([] : List UInt8)) = true := bne_iff_ne.mpr c2
    by_cases c3 : 0 < (a0.size : Int)
    · rw [if_pos c3] at H
      have c3b0 : decide (0 < (a0.size : Int)) = true := decide_eq_true c3
      have c3b1 : decide (0 < a0.size) = true := decide_eq_true (by omega)
      clear c3
      replace H := Option.bind_eq_some_iff.mp H
      obtain ⟨⟨t103, t104⟩, A50, H⟩ := H
      replace H : (if t103 = 0 then (utf_Take.j0 k a0 t103 t104 true) else (utf_Take.j0 k a0 t103 t104 (decide (t103 > (a0.size : Int))))) = some (r1, r2) := H
      have A5 := Aside0.mk A50
      clear A50
      have HC6 := Aside0.mk H
      clear H
      have p4 : 0 ≤ (0 : Int) := (by omega)
      have q4 : 0 < a0.size := (by have : (0 : Int) < (a0.size : Int) := of_decide_eq_true (by first | (with_reducible assumption) | assumption); omega)
      have hx4 : ∀ h : 0 < a0.size, ((a0[0]'h).toNat : Int) = bt a0 0 := bt_at a0 0
      clear p4
      have qi4 : (0 < (a0.size : Int)) = True := eq_true (of_decide_eq_true (by first | (with_reducible assumption) | assumption))
      replace q4 := eq_true q4
      go_enter Tryz.func97, Tryz.ntmps97
      go_upto_region 4 with (first | ((with_reducible refine gate_callee (f := 111) rfl ?_); refine goesL_ (some 12) rfl rfl Tryz.func111 (by kernel_rfl) rfl #[.int .u8 (bt a0 0)] rfl (by (try simp only [List.map_toArray, List.map_cons, List.map_nil]); first | done | rfl | (simp only [List.length_drop, List.length_take]; rfl)) ?_; (with_reducible refine (utf_begins.calls (bt a0 0) t103 t104 _ A5.out).mono ?_); rintro e w' ⟨rfl, ⟨nd, rfl⟩⟩; refine ⟨_, rfl, ?_⟩))
      (try simp only [Act.put, List.setIfInBounds_toArray, List.set_cons_zero, List.set_cons_succ])
      go_cut [22] (fun v22 wc => ∃ (kq : Nat) (x22_5 : Bool), v22 = .bool x22_5 ∧ Aside0 (utf_Take.j0 kq a0 t103 t104 x22_5 = some (r1, r2)) ∧ Aside0 (kq ≤ k) ∧ Drawn0 w wc)
      case first =>
        have H := HC6.out
        clear HC6
        by_cases c7 : t103 = 0
        · rw [if_pos c7] at H
          have c7b0 : (t103 == 0) = true := beq_iff_eq.mpr c7
          have c7b1 : (t103 != 0) = false := bne_eq_false_iff_eq.mpr c7
          clear c7
          (first | rw [c7b0] | (simp only [i64_w, i32_w]; rw [c7b0]) | skip)
          have H' := Aside0.mk H
          clear H
          go_wp2
          go_meet
          case rel => exact ⟨_, (true), (by first | rfl | (simp; done) | (simp [*]; done)), H', ⟨by first | omega | exact Nat.le_refl _⟩, by repeat (first | exact Drawn0.refl _ | apply Drawn0.step)⟩
        · rw [if_neg c7] at H
          have c7b0 : (t103 == 0) = false := beq_eq_false_iff_ne.mpr c7
          have c7b1 : (t103 != 0) = true := bne_iff_ne.mpr c7
          (first | rw [c7b0] | (simp only [i64_w, i32_w]; rw [c7b0]) | skip)
          have H' := Aside0.mk H
          clear H
          go_wp2
          go_meet
          case rel => exact ⟨_, (decide (t103 > (a0.size : Int))), (by first | rfl | (simp; done) | (simp [*]; done)), H', ⟨by first | omega | exact Nat.le_refl _⟩, by repeat (first | exact Drawn0.refl _ | apply Drawn0.step)⟩
      case rest =>
        clear HC6
        try clear c2
        try clear c2b0
        try clear c2b1
        try clear p2
        try clear c3
        try clear c3b0
        try clear c3b1
        try clear p4
        try clear q4
        try clear hx4
        try clear qi4
        try clear c7
        try clear c7b0
        try clear c7b1
        try clear p4
        try clear q4
        obtain ⟨kq, x22_5, rfl, HA, HJ5, ⟨mc5, rfl⟩⟩ := hcut
        cases kq with
        | zero => exact absurd HA.out (by simp [utf_Take.j0])
        | succ kj5 =>
          have H := HA.out
          clear HA
          simp only [utf_Take.j0] at H
          by_cases c8 : x22_5 = true
          · subst c8
            have H1 : (some (0, 0)) = some (r1, r2) := by rw [if_pos rfl] at H; exact H
            clear H
            have H := H1
            clear H1
            simp only [Option.some.injEq, Prod.mk.injEq] at H
            obtain ⟨rfl, rfl⟩ := H
            go_wp2
            go_ret2
            exact ⟨by first | rfl | (simp; done) | (simp [*]; done), by repeat (first | exact Drawn0.refl _ | apply Drawn0.step)⟩
          · replace c8 := Bool.eq_false_iff.mpr c8
            subst c8
            have H1 : (utf_Take.l0 kj5 a0 t103 t104 1) = some (r1, r2) := by rw [if_neg (show ¬ (false = true) by decide)] at H; exact H
            clear H
            have H := H1
            clear H1
            have H' := Aside0.mk H
            clear H
            go_wp2
            go_loopg [5, 6] kj5 (fun kq v5 v6 w' => ∃ (x5_2 : Int) (x6_2 : Int), v5 = .int .i64 x5_2 ∧ v6 = .int .i64 x6_2 ∧ Aside0 (utf_Take.l0 kq a0 t103 x5_2 x6_2 = some (r1, r2)) ∧ Aside0 (kq ≤ kj5) ∧ Drawn0 w w')
            case atStart => exact ⟨(t104), (1), (by first | rfl | (simp; done) | (simp [*]; done)), (by first | rfl | (simp; done) | (simp [*]; done)), H', ⟨Nat.le_refl _⟩, by repeat (first | exact Drawn0.refl _ | apply Drawn0.step)⟩
            case round =>
              clear H'
              try clear c2
              try clear c2b0
              try clear c2b1
              try clear p2
              try clear c3
              try clear c3b0
              try clear c3b1
              try clear p4
              try clear q4
              try clear hx4
              try clear qi4
              try clear c5
              try clear c7
              try clear c7b0
              try clear c7b1
              try clear c8
              try clear p2
              try clear p4
              try clear q4
              obtain ⟨x5_2, x6_2, rfl, rfl, HA, HK2, ⟨m2, rfl⟩⟩ := hrel
              cases gk with
              | zero => exact absurd HA.out (by simp [utf_Take.l0])
              | succ k2 =>
                have H := HA.out
                clear HA
                simp only [utf_Take.l0] at H
                by_cases c9 : x6_2 < t103
                · rw [if_pos c9] at H
                  have c9b0 : decide (x6_2 < t103) = true := decide_eq_true c9
                  clear c9
                  by_cases c10 : 0 ≤ x6_2
                  · rw [if_pos c10] at H
                    have c10b0 : decide (0 ≤ x6_2) = true := decide_eq_true c10
                    clear c10
                    by_cases c11 : x6_2 < (a0.size : Int)
                    · rw [if_pos c11] at H
                      have c11b0 : decide (x6_2 < (a0.size : Int)) = true := decide_eq_true c11
                      clear c11
                      by_cases c13 : (Go.bits .and .u8 (bt a0 x6_2) 192) = 128
                      · rw [if_pos c13] at H
                        have c13b0 : ((Go.bits .and .u8 (bt a0 x6_2) 192) == 128) = true := beq_iff_eq.mpr c13
                        have c13b1 : ((Go.bits .and .u8 (bt a0 x6_2) 192) != 128) = false := bne_eq_false_iff_eq.mpr c13
                        clear c13
                        have H' := Aside0.mk H
                        clear H
                        have p12 : 0 ≤ (x6_2 : Int) := of_decide_eq_true (by first | (with_reducible assumption) | assumption)
                        have q12 : x6_2 < (a0.size : Int) := of_decide_eq_true (by first | (with_reducible assumption) | assumption)
                        have hx12 := bt_at a0 x6_2
                        replace p12 := eq_true p12
                        replace q12 := eq_true q12
                        have p14 : 0 ≤ (x6_2 : Int) := of_decide_eq_true (by first | (with_reducible assumption) | assumption)
                        have q14 : x6_2 < (a0.size : Int) := of_decide_eq_true (by first | (with_reducible assumption) | assumption)
                        have hx14 := bt_at a0 x6_2
                        replace p14 := eq_true p14
                        replace q14 := eq_true q14
                        go_wp2
                        go_roundg k2
                        case measure => have := HJ5.out; have := HK2.out; omega
                        case rel => exact ⟨(Go.bits .or .i64 (wrap64 (x5_2 * 64)) (wrap64 (Go.bits .and .u8 (bt a0 x6_2) 63))), (wrap64 (x6_2 + 1)), (by first | rfl | (simp; done) | (simp [*]; done)), (by first | rfl | (simp; done) | (simp [*]; done)), H', ⟨by have := HJ5.out; have := HK2.out; omega⟩, by repeat (first | exact Drawn0.refl _ | apply Drawn0.step)⟩
                      · rw [if_neg c13] at H
                        have c13b0 : ((Go.bits .and .u8 (bt a0 x6_2) 192) == 128) = false := beq_eq_false_iff_ne.mpr c13
                        have c13b1 : ((Go.bits .and .u8 (bt a0 x6_2) 192) != 128) = true := bne_iff_ne.mpr c13
                        simp only [Option.some.injEq, Prod.mk.injEq] at H
                        obtain ⟨rfl, rfl⟩ := H
                        have p12 : 0 ≤ (x6_2 : Int) := of_decide_eq_true (by first | (with_reducible assumption) | assumption)
                        have q12 : x6_2 < (a0.size : Int) := of_decide_eq_true (by first | (with_reducible assumption) | assumption)
                        have hx12 := bt_at a0 x6_2
                        replace p12 := eq_true p12
                        replace q12 := eq_true q12
                        go_wp2
                        go_ret2
                        exact ⟨by first | rfl | (simp; done) | (simp [*]; done), by repeat (first | exact Drawn0.refl _ | apply Drawn0.step)⟩
                    · rw [if_neg c11] at H
                      exact absurd H (by simp)
                  · rw [if_neg c10] at H
                    exact absurd H (by simp)
                · rw [if_neg c9] at H
                  have c9b0 : decide (x6_2 < t103) = false := decide_eq_false c9
                  clear c9
                  replace H := Option.bind_eq_some_iff.mp H
                  obtain ⟨t105, A150, H⟩ := H
                  replace H : (if t105 = true then ((utf_size.f x5_2).bind fun t106 => (if t106 = t103 then (some (x5_2, t103)) else (some (0, 0)))) else (some (0, 0))) = some (r1, r2) := H
                  have A15 := Aside0.mk A150
                  clear A150
                  by_cases c16 : t105 = true
                  · subst c16
                    have H1 : ((utf_size.f x5_2).bind fun t106 => (if t106 = t103 then (some (x5_2, t103)) else (some (0, 0)))) = some (r1, r2) := by rw [if_pos rfl] at H; exact H
                    clear H
                    have H := H1
                    clear H1
                    replace H := Option.bind_eq_some_iff.mp H
                    obtain ⟨t106, A170, H⟩ := H
                    replace H : (if t106 = t103 then (some (x5_2, t103)) else (some (0, 0))) = some (r1, r2) := H
                    have A17 := Aside0.mk A170
                    clear A170
                    by_cases c18 : t106 = t103
                    · rw [if_pos c18] at H
                      have c18b0 : (t106 == t103) = true := beq_iff_eq.mpr c18
                      have c18b1 : (t106 != t103) = false := bne_eq_false_iff_eq.mpr c18
                      clear c18
                      simp only [Option.some.injEq, Prod.mk.injEq] at H
                      obtain ⟨rfl, rfl⟩ := H
                      go_wp2_with (first | ((with_reducible refine gate_callee (f := 112) rfl ?_); refine goesL_ (some 42) rfl rfl Tryz.func112 (by kernel_rfl) rfl #[.int .i64 x5_2] rfl (by (try simp only [List.map_toArray, List.map_cons, List.map_nil]); first | done | rfl | (simp only [List.length_drop, List.length_take]; rfl)) ?_; (with_reducible refine (utf_Good.calls x5_2 true _ A15.out).mono ?_); rintro e w' ⟨rfl, ⟨nd, rfl⟩⟩; refine ⟨_, rfl, ?_⟩) | (go_at_call 113; (with_reducible refine (utf_size.calls x5_2 t106 _ A17.out).mono ?_); rintro e w' ⟨rfl, ⟨nd, rfl⟩⟩))
                      go_ret2
                      exact ⟨by first | rfl | (simp; done) | (simp [*]; done), by repeat (first | exact Drawn0.refl _ | apply Drawn0.step)⟩
                    · rw [if_neg c18] at H
                      have c18b0 : (t106 == t103) = false := beq_eq_false_iff_ne.mpr c18
                      have c18b1 : (t106 != t103) = true := bne_iff_ne.mpr c18
                      simp only [Option.some.injEq, Prod.mk.injEq] at H
                      obtain ⟨rfl, rfl⟩ := H
                      go_wp2_with (first | ((with_reducible refine gate_callee (f := 112) rfl ?_); refine goesL_ (some 42) rfl rfl Tryz.func112 (by kernel_rfl) rfl #[.int .i64 x5_2] rfl (by (try simp only [List.map_toArray, List.map_cons, List.map_nil]); first | done | rfl | (simp only [List.length_drop, List.length_take]; rfl)) ?_; (with_reducible refine (utf_Good.calls x5_2 true _ A15.out).mono ?_); rintro e w' ⟨rfl, ⟨nd, rfl⟩⟩; refine ⟨_, rfl, ?_⟩) | (go_at_call 113; (with_reducible refine (utf_size.calls x5_2 t106 _ A17.out).mono ?_); rintro e w' ⟨rfl, ⟨nd, rfl⟩⟩))
                      go_ret2
                      exact ⟨by first | rfl | (simp; done) | (simp [*]; done), by repeat (first | exact Drawn0.refl _ | apply Drawn0.step)⟩
                  · replace c16 := Bool.eq_false_iff.mpr c16
                    subst c16
                    have H1 : (some (0, 0)) = some (r1, r2) := by rw [if_neg (show ¬ (false = true) by decide)] at H; exact H
                    clear H
                    have H := H1
                    clear H1
                    simp only [Option.some.injEq, Prod.mk.injEq] at H
                    obtain ⟨rfl, rfl⟩ := H
                    go_wp2_with (first | ((with_reducible refine gate_callee (f := 112) rfl ?_); refine goesL_ (some 42) rfl rfl Tryz.func112 (by kernel_rfl) rfl #[.int .i64 x5_2] rfl (by (try simp only [List.map_toArray, List.map_cons, List.map_nil]); first | done | rfl | (simp only [List.length_drop, List.length_take]; rfl)) ?_; (with_reducible refine (utf_Good.calls x5_2 false _ A15.out).mono ?_); rintro e w' ⟨rfl, ⟨nd, rfl⟩⟩; refine ⟨_, rfl, ?_⟩))
                    go_ret2
                    exact ⟨by first | rfl | (simp; done) | (simp [*]; done), by repeat (first | exact Drawn0.refl _ | apply Drawn0.step)⟩
    · rw [if_neg c3] at H
      exact absurd H (by simp)

/-! ### utf_Valid -/
def utf_Valid.l0 : Nat → ByteArray → Int → Option (Int × Bool)
  | 0, _, _ => none
  | k + 1, x0, x4 => if x4 < (x0.size : Int) then (if 0 ≤ x4 then (if x4 ≤ (x0.size : Int) then ((utf_Take.f k (x0.extract (x4 : Int).toNat x0.size)).bind fun bt107 => (if bt107.2 = 0 then (some (x4, false)) else (utf_Valid.l0 k x0 (wrap64 (x4 + bt107.2))))) else (none)) else (none)) else (some ((x0.size : Int), true))
def utf_Valid.f (k : Nat) (a0 : ByteArray) : Option (Int × Bool) := utf_Valid.l0 k a0 0
theorem utf_Valid.mono_l : ∀ k, (∀ y0 y1, LeO (utf_Valid.l0 k y0 y1) (utf_Valid.l0 (k + 1) y0 y1))
  | 0 => fun _ _ r h => by simp [utf_Valid.l0] at h
  | k + 1 => by
    have ih0 := utf_Valid.mono_l k
    · intro y0 y1
      unfold utf_Valid.l0
      repeat' first
      | (with_reducible exact ih0 _ _)
      | (with_reducible exact utf_Take.mono _ _)
      | (with_reducible exact LeO.refl _)
      | (with_reducible exact LeO.none _)
      | (with_reducible refine LeO.ite ?_ ?_)
      | (with_reducible refine LeO.bind ?_ (fun _ => ?_))
      | exact ih0 _ _
      | exact utf_Take.mono _ _
      | exact LeO.none _
      | refine LeO.ite ?_ ?_
      | refine LeO.bind ?_ (fun _ => ?_)
theorem utf_Valid.mono : ∀ a0 k, LeO (utf_Valid.f k a0) (utf_Valid.f (k + 1) a0) := by
  intro a0 k
  have ih0 := utf_Valid.mono_l k
  unfold utf_Valid.f
  repeat' first
      | (with_reducible exact ih0 _ _)
      | (with_reducible exact utf_Take.mono _ _)
      | (with_reducible exact LeO.refl _)
      | (with_reducible exact LeO.none _)
      | (with_reducible refine LeO.ite ?_ ?_)
      | (with_reducible refine LeO.bind ?_ (fun _ => ?_))
      | exact ih0 _ _
      | exact utf_Take.mono _ _
      | exact LeO.none _
      | refine LeO.ite ?_ ?_
      | refine LeO.bind ?_ (fun _ => ?_)
set_option maxHeartbeats 8000000 in
set_option maxRecDepth 100000 in
theorem utf_Valid.calls (k : Nat) (a0 : ByteArray) (r1 : Int) (r2 : Bool) (w : World) (h : utf_Valid.f k a0 = some (r1, r2)) :
    Calls Tryz.prog 70 #[.string a0] w fun e w' => e = .returned (.tuple #[.int .i64 r1, .bool r2]) ∧ Drawn0 w w' := by
  have H : (utf_Valid.l0 k a0 0) = some (r1, r2) := h
  clear h
  have H' := Aside0.mk H
  clear H
  go_enter Tryz.func70, Tryz.ntmps70
  go_wp2
  go_loopg [4] k (fun kq v4 w' => ∃ (x4_1 : Int), v4 = .int .i64 x4_1 ∧ Aside0 (utf_Valid.l0 kq a0 x4_1 = some (r1, r2)) ∧ Aside0 (kq ≤ k) ∧ Drawn0 w w')
  case atStart => exact ⟨(0), (by first | rfl | (simp; done) | (simp [*]; done)), H', ⟨Nat.le_refl _⟩, by repeat (first | exact Drawn0.refl _ | apply Drawn0.step)⟩
  case round =>
    clear H'
    try clear c1
    obtain ⟨x4_1, rfl, HA, HK1, ⟨m1, rfl⟩⟩ := hrel
    cases gk with
    | zero => exact absurd HA.out (by simp [utf_Valid.l0])
    | succ k1 =>
      have H := HA.out
      clear HA
      simp only [utf_Valid.l0] at H
      by_cases c2 : x4_1 < (a0.size : Int)
      · rw [if_pos c2] at H
        have c2b0 : decide (x4_1 < (a0.size : Int)) = true := decide_eq_true c2
        clear c2
        by_cases c3 : 0 ≤ x4_1
        · rw [if_pos c3] at H
          have c3b0 := eq_true c3
          have c3b1 : decide (0 ≤ x4_1) = true := decide_eq_true c3
          clear c3
          by_cases c4 : x4_1 ≤ (a0.size : Int)
          · rw [if_pos c4] at H
            have c4b0 := eq_true c4
            have c4b1 : decide (x4_1 ≤ (a0.size : Int)) = true := decide_eq_true c4
            clear c4
            replace H := Option.bind_eq_some_iff.mp H
            obtain ⟨⟨t107, t108⟩, A50, H⟩ := H
            replace H : (if t108 = 0 then (some (x4_1, false)) else (utf_Valid.l0 k1 a0 (wrap64 (x4_1 + t108)))) = some (r1, r2) := H
            have A5 := Aside0.mk A50
            clear A50
            by_cases c6 : t108 = 0
            · rw [if_pos c6] at H
              have c6b0 : (t108 == 0) = true := beq_iff_eq.mpr c6
              have c6b1 : (t108 != 0) = false := bne_eq_false_iff_eq.mpr c6
              clear c6
              simp only [Option.some.injEq, Prod.mk.injEq] at H
              obtain ⟨rfl, rfl⟩ := H
              go_wp2_with (first | ((with_reducible refine gate_callee (f := 97) rfl ?_); refine goesL_ (some 15) rfl rfl Tryz.func97 (by kernel_rfl) rfl #[.string (a0.extract (x4_1 : Int).toNat a0.size)] rfl (by (try simp only [List.map_toArray, List.map_cons, List.map_nil]); first | done | rfl | (simp only [List.length_drop, List.length_take]; rfl)) ?_; (with_reducible refine (utf_Take.calls k1 (a0.extract (x4_1 : Int).toNat a0.size) t107 t108 _ A5.out).mono ?_); rintro e w' ⟨rfl, ⟨nd, rfl⟩⟩; refine ⟨_, rfl, ?_⟩))
              go_ret2
              exact ⟨by first | rfl | (simp; done) | (simp [*]; done), by repeat (first | exact Drawn0.refl _ | apply Drawn0.step)⟩
            · rw [if_neg c6] at H
              have c6b0 : (t108 == 0) = false := beq_eq_false_iff_ne.mpr c6
              have c6b1 : (t108 != 0) = true := bne_iff_ne.mpr c6
              have H' := Aside0.mk H
              clear H
              go_wp2_with (first | ((with_reducible refine gate_callee (f := 97) rfl ?_); refine goesL_ (some 15) rfl rfl Tryz.func97 (by kernel_rfl) rfl #[.string (a0.extract (x4_1 : Int).toNat a0.size)] rfl (by (try simp only [List.map_toArray, List.map_cons, List.map_nil]); first | done | rfl | (simp only [List.length_drop, List.length_take]; rfl)) ?_; (with_reducible refine (utf_Take.calls k1 (a0.extract (x4_1 : Int).toNat a0.size) t107 t108 _ A5.out).mono ?_); rintro e w' ⟨rfl, ⟨nd, rfl⟩⟩; refine ⟨_, rfl, ?_⟩))
              go_roundg k1
              case measure => have := HK1.out; omega
              case rel => exact ⟨(wrap64 (x4_1 + t108)), (by first | rfl | (simp; done) | (simp [*]; done)), H', ⟨by have := HK1.out; omega⟩, by repeat (first | exact Drawn0.refl _ | apply Drawn0.step)⟩
          · rw [if_neg c4] at H
            exact absurd H (by simp)
        · rw [if_neg c3] at H
          exact absurd H (by simp)
      · rw [if_neg c2] at H
        have c2b0 : decide (x4_1 < (a0.size : Int)) = false := decide_eq_false c2
        clear c2
        simp only [Option.some.injEq, Prod.mk.injEq] at H
        obtain ⟨rfl, rfl⟩ := H
        go_wp2
        go_ret2
        exact ⟨by first | rfl | (simp; done) | (simp [*]; done), by repeat (first | exact Drawn0.refl _ | apply Drawn0.step)⟩

/-! ### value_letters -/
def value_letters.f (k : Nat) (a0 : ByteArray) : Option (Int) := (utf_Valid.f k a0).bind fun bt109 => (if bt109.2 = true then (if (a0.size : Int) > 4096 then (some 2) else (some 0)) else (some 3))
theorem value_letters.mono : ∀ a0 k, LeO (value_letters.f k a0) (value_letters.f (k + 1) a0) := by
  intro a0 k
  unfold value_letters.f
  repeat' first
      | (with_reducible exact utf_Valid.mono _ _)
      | (with_reducible exact LeO.refl _)
      | (with_reducible exact LeO.none _)
      | (with_reducible refine LeO.ite ?_ ?_)
      | (with_reducible refine LeO.bind ?_ (fun _ => ?_))
      | exact utf_Valid.mono _ _
      | exact LeO.none _
      | refine LeO.ite ?_ ?_
      | refine LeO.bind ?_ (fun _ => ?_)
set_option maxHeartbeats 8000000 in
set_option maxRecDepth 100000 in
theorem value_letters.calls (k : Nat) (a0 : ByteArray) (r : Int) (w : World) (h : value_letters.f k a0 = some r) :
    Calls Tryz.prog 127 #[.string a0] w fun e w' => e = .returned (.int .i64 r) ∧ Drawn0 w w' := by
  have H : ((utf_Valid.f k a0).bind fun bt109 => (if bt109.2 = true then (if (a0.size : Int) > 4096 then (some 2) else (some 0)) else (some 3))) = some r := h
  clear h
  replace H := Option.bind_eq_some_iff.mp H
  obtain ⟨⟨t109, t110⟩, A20, H⟩ := H
  replace H : (if t110 = true then (if (a0.size : Int) > 4096 then (some 2) else (some 0)) else (some 3)) = some r := H
  have A2 := Aside0.mk A20
  clear A20
  by_cases c3 : t110 = true
  · subst c3
    have H1 : (if (a0.size : Int) > 4096 then (some 2) else (some 0)) = some r := by rw [if_pos rfl] at H; exact H
    clear H
    have H := H1
    clear H1
    by_cases c4 : (a0.size : Int) > 4096
    · rw [if_pos c4] at H
      have c4b0 : decide (4096 < (a0.size : Int)) = true := decide_eq_true c4
      have c4b1 : decide (4096 < a0.size) = true := decide_eq_true (by omega)
      clear c4
      obtain rfl := Option.some.inj H
      go_enter Tryz.func127, Tryz.ntmps127
      go_wp2_with (first | ((with_reducible refine gate_callee (f := 70) rfl ?_); refine goesL_ (some 7) rfl rfl Tryz.func70 (by kernel_rfl) rfl #[.string a0] rfl (by (try simp only [List.map_toArray, List.map_cons, List.map_nil]); first | done | rfl | (simp only [List.length_drop, List.length_take]; rfl)) ?_; (with_reducible refine (utf_Valid.calls k a0 t109 true _ A2.out).mono ?_); rintro e w' ⟨rfl, ⟨nd, rfl⟩⟩; refine ⟨_, rfl, ?_⟩))
      go_ret
      exact ⟨by first | rfl | (simp; done) | (simp [*]; done), by repeat (first | exact Drawn0.refl _ | apply Drawn0.step)⟩
    · rw [if_neg c4] at H
      have c4b0 : decide (4096 < (a0.size : Int)) = false := decide_eq_false c4
      have c4b1 : decide (4096 < a0.size) = false := decide_eq_false (by omega)
      clear c4
      obtain rfl := Option.some.inj H
      go_enter Tryz.func127, Tryz.ntmps127
      go_wp2_with (first | ((with_reducible refine gate_callee (f := 70) rfl ?_); refine goesL_ (some 7) rfl rfl Tryz.func70 (by kernel_rfl) rfl #[.string a0] rfl (by (try simp only [List.map_toArray, List.map_cons, List.map_nil]); first | done | rfl | (simp only [List.length_drop, List.length_take]; rfl)) ?_; (with_reducible refine (utf_Valid.calls k a0 t109 true _ A2.out).mono ?_); rintro e w' ⟨rfl, ⟨nd, rfl⟩⟩; refine ⟨_, rfl, ?_⟩))
      go_ret
      exact ⟨by first | rfl | (simp; done) | (simp [*]; done), by repeat (first | exact Drawn0.refl _ | apply Drawn0.step)⟩
  · replace c3 := Bool.eq_false_iff.mpr c3
    subst c3
    have H1 : (some 3) = some r := by rw [if_neg (show ¬ (false = true) by decide)] at H; exact H
    clear H
    have H := H1
    clear H1
    obtain rfl := Option.some.inj H
    go_enter Tryz.func127, Tryz.ntmps127
    go_wp2_with (first | ((with_reducible refine gate_callee (f := 70) rfl ?_); refine goesL_ (some 7) rfl rfl Tryz.func70 (by kernel_rfl) rfl #[.string a0] rfl (by (try simp only [List.map_toArray, List.map_cons, List.map_nil]); first | done | rfl | (simp only [List.length_drop, List.length_take]; rfl)) ?_; (with_reducible refine (utf_Valid.calls k a0 t109 false _ A2.out).mono ?_); rintro e w' ⟨rfl, ⟨nd, rfl⟩⟩; refine ⟨_, rfl, ?_⟩))
    go_ret
    exact ⟨by first | rfl | (simp; done) | (simp [*]; done), by repeat (first | exact Drawn0.refl _ | apply Drawn0.step)⟩
end Go.Proofs.YtffcpmohanhihaaGreatDoor
