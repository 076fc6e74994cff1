/-
  The plain law of ReadyRoom: what waits for ever fills the room, and no more. No condition.
  ReadyRoom, walked.
-/
import Derived.Test.YtffcpmohanhihaaGreatDoorJ24
import Derived.Test.YtffcpmohanhihaaGreatDoorJ25
namespace Go.Proofs.YtffcpmohanhihaaGreatDoor
open Go.RowKit
set_option linter.unusedVariables false
set_option linter.unusedSimpArgs false
/-- One that waits for the first replica's first. -/
def opr (a b : Nat) : OT := opv25 (a : Int) (b : Int) ((b : Int) + 1) 1 1
theorem opr_fit {a b : Nat} (h : a ≤ 64) (hb : b ≤ 5) : Fit25 (a : Int) (b : Int) ((b : Int) + 1) 1 1 := ⟨by omega, by omega, by omega, by omega, by omega⟩
theorem opr_ok {a b : Nat} (h : a ≤ 64) (hb : b ≤ 5) : OT.Ok (opr a b) := opv25_ok (opr_fit h hb)
theorem opr_can (a b : Nat) : (opr a b).can = opr a b := rfl
theorem opr_m (a b : Nat) : (opr a b).o.M = 0 := rfl
theorem chk_opr : ((List.range 63).all fun a => (List.range 5).all fun b => applyE s0 (opr (a + 2) (b + 1)) == 9) = true := by kernel_rfl
theorem opr_waits {a b : Nat} (h2 : 2 ≤ a) (h : a ≤ 64) (h1 : 1 ≤ b) (hb : b ≤ 5) : applyE s0 (opr a b) = 9 := by
  have := all_at (all_at chk_opr (j := a - 2) (by omega)) (j := b - 1) (by omega)
  rw [show a - 2 + 2 = a by omega, show b - 1 + 1 = b by omega] at this
  exact beq_iff_eq.1 this
def RInv (u : Nat) (L : List OT) : Prop := ∀ x ∈ L, ∃ a b, x = opr a b ∧ 5 * a + b < u ∧ 1 ≤ b ∧ b ≤ 5
theorem RInv.more {u v : Nat} {L : List OT} (h : RInv u L) (hv : u ≤ v) : RInv v L := fun x hx => by
  obtain ⟨a, b, e, h1, h2, h3⟩ := h x hx
  exact ⟨a, b, e, by omega, h2, h3⟩
theorem opr_new {a b : Nat} {L : List OT} (h : RInv (5 * a + b) L) (h1 : 1 ≤ b) (hb : b ≤ 5) : twiceB (opr a b) L = false := by
  rw [Bool.eq_false_iff]
  intro ht
  unfold twiceB at ht
  cases hz : L[posI (opr a b) L]? with
  | none => rw [hz] at ht; cases ht
  | some z =>
    rw [hz] at ht
    have ht : sameI z (opr a b) = true := ht
    obtain ⟨a', b', rfl, hlt, h3, h4⟩ := h z (List.mem_of_getElem? hz)
    unfold sameI at ht
    have e1 : (a' : Int) = (a : Int) := beq_iff_eq.1 (Bool.and_eq_true_iff.1 ht).1
    have e2 : (b' : Int) = (b : Int) := beq_iff_eq.1 (Bool.and_eq_true_iff.1 ht).2
    omega
theorem room_full {a b : Nat} {L : List OT} (h : RInv (5 * a + b) L) (h2 : 2 ≤ a) (h6 : a ≤ 64) (h1 : 1 ≤ b) (hb : b ≤ 5) (hl : L.length = 256) : addF s0 L (opr a b) = ⟨0, 10, s0, L⟩ := by
  unfold addF
  rw [opr_waits h2 h6 h1 hb, if_pos rfl]
  unfold waitF
  rw [opr_new h h1 hb, if_neg (by decide), if_pos hl]
theorem room_more {a b : Nat} {L : List OT} (h : RInv (5 * a + b) L) (h2 : 2 ≤ a) (h6 : a ≤ 64) (h1 : 1 ≤ b) (hb : b ≤ 5) (hl : L.length ≠ 256) : ∃ L', addF s0 L (opr a b) = ⟨0, 0, s0, L'⟩ ∧ L'.length = L.length + 1 ∧ RInv (5 * a + b + 1) L' := by
  refine ⟨insO (posI (opr a b) L) (opr a b) L, ?_, insO_len (posI_le _ _) _, fun x hx => ?_⟩
  · unfold addF
    rw [opr_waits h2 h6 h1 hb, if_pos rfl]
    unfold waitF
    rw [opr_new h h1 hb, if_neg (by decide), if_neg hl]
  · rcases insO_mem.1 hx with rfl | hx
    · exact ⟨a, b, rfl, by omega, h1, hb⟩
    · obtain ⟨a', b', e, q1, q2, q3⟩ := h x hx
      exact ⟨a', b', e, by omega, q2, q3⟩
end Go.Proofs.YtffcpmohanhihaaGreatDoor
namespace Go.Proofs.YtffcpmohanhihaaGreatDoor
open Go.RowKit Go.Sort
set_option linter.unusedVariables false
set_option linter.unusedSimpArgs false
set_option linter.unusedSectionVars false
theorem opr_any {a b : Nat} (h : a ≤ 64) (hb : b ≤ 5) (w : World) : Calls Tryz.prog 12 #[.int .i64 (a : Int), .int .i64 (b : Int), .int .i64 ((b : Int) + 1), .int .i64 1, .int .i64 1] w fun e w' => e = .returned (opv (opr a b).o) ∧ Below w.heap.size w w' := op25_any _ _ _ 1 1 w (opr_fit h hb)
section
variable {w0 w : World} {B : DB} {p : Nat} {cl : List OT} {S : List Nat} (h : PairC w0 w B p s0 cl S) (hw0 : Vars w0) {a b : Nat} (h2 : 2 ≤ a) (h6 : a ≤ 64) (h1 : 1 ≤ b) (hb : b ≤ 5) (hr : RInv (5 * a + b) cl)
include h hw0 h2 h6 h1 hb hr
theorem add_full (hl : cl.length = 256) : Calls Tryz.prog 11 #[.pointer (some ⟨p, 0, none⟩), .pointer (some ⟨B.d, 0, none⟩), opv (opr a b).o] w fun e w' => e = .returned (.tuple #[.int .i64 0, .int .i64 10]) ∧ ∃ cl' S', PairC w0 w' B p s0 cl' S' ∧ RInv (5 * a + b + 1) cl' ∧ cl'.length = 256 :=
  (addC_any h hw0 (by omega) (opr_ok h6 hb) (opr_m _ _) (opr_can _ _)).mono fun e w' hA => by
    unfold AddC at hA
    obtain ⟨S', he, hp, _, _⟩ := hA
    rw [room_full hr h2 h6 h1 hb hl] at he hp
    exact ⟨he, cl, S', hp, hr.more (Nat.le_succ _), hl⟩
theorem add_more (hl : cl.length < 256) : Calls Tryz.prog 11 #[.pointer (some ⟨p, 0, none⟩), .pointer (some ⟨B.d, 0, none⟩), opv (opr a b).o] w fun e w' => e = .returned (.tuple #[.int .i64 0, .int .i64 0]) ∧ ∃ cl' S', PairC w0 w' B p s0 cl' S' ∧ RInv (5 * a + b + 1) cl' ∧ cl'.length = cl.length + 1 :=
  (addC_any h hw0 (by omega) (opr_ok h6 hb) (opr_m _ _) (opr_can _ _)).mono fun e w' hA => by
    unfold AddC at hA
    obtain ⟨S', he, hp, _, _⟩ := hA
    obtain ⟨L', e2, e3, e4⟩ := room_more hr h2 h6 h1 hb (by omega)
    rw [e2] at he hp
    exact ⟨he, L', S', hp, e4, e3⟩
end
section
variable (w : World) (hw : Vars w)
include hw
set_option maxRecDepth 100000 in
set_option maxHeartbeats 4000000 in
theorem readyRoom_go (M : Nat) (hM1 : 1 ≤ M) (hM : M ≤ 20) : Calls Tryz.prog 5 #[.int .i64 (M : Int)] w fun e w' => e = .returned (.bool true) ∧ Below w.heap.size w w' := by
  have HW := Lib.hid hw
  have d1 : decide ((M : Int) < 1) = false := by simp; omega
  have d2 : decide ((20 : Int) < (M : Int)) = false := by simp; omega
  clear hw
  go_enter Tryz.func5, Tryz.ntmps5
  go_upto_region 5 with (first | go_skip | (go_at_call 8; (with_reducible (refine (awake25_any _ HW.out).mono ?_)); rintro e wn ⟨rfl, hbn⟩; have HA := Lib.hid hbn; clear hbn))
  go_upto_region 6 with (first | go_skip | (go_at_call 9; (with_reducible (refine (bNew_any _).mono ?_)); rintro e wa ⟨p, rfl, hb⟩; have HB := Lib.hid hb; clear hb) | (go_at_call 10; (with_reducible (refine (dNew_any _).mono ?_)); rintro e wb ⟨B, rfl, hd⟩; have HP := Lib.hid ((PairC.new HB.out hd).base HA.out); clear HB hd))
  have hT : IntKind.i64.wrap (256 + (M : Int)) = 256 + (M : Int) := by rw [IntKind.wrap_i64]; omega
  go_wp2_with go_skip
  go_loopw [5, 6] (fun nv kv wr => ∃ (n a : Nat) (cl : List OT) (S : List Nat), nv = .int .i64 (n : Int) ∧ kv = .int .i64 (a : Int) ∧ ((2 ≤ a ∧ a ≤ 65 ∧ (n = 5 * (a - 2) ∨ n = 256 + M) ∧ n ≤ 256 + M) ∧ cl.length = min n 256 ∧ RInv (5 * a + 1) cl) ∧ PairC w wr B p s0 cl S) (fun _ kv _ => 65 - (intOf kv).toNat)
  case atStart => exact ⟨0, 2, _, _, rfl, rfl, ⟨⟨by omega, by omega, .inl rfl, by omega⟩, rfl, fun x hx => by cases hx⟩, HP.out⟩
  case round =>
    rename World => wr
    obtain ⟨n, a, cl, S, rfl, rfl, hinv, hpr⟩ := hrel
    have HI := Lib.hid hinv
    have HPR := Lib.hid hpr
    clear hinv hpr HP
    obtain ⟨⟨ha2, ha65, hna, hnT⟩, hcl, _⟩ := HI.out
    by_cases hgo : a ≤ 64 ∧ n < 256 + M
    · obtain ⟨ha64, hnlt⟩ := hgo
      have hn5 : n = 5 * (a - 2) := by omega
      have c1 : decide ((a : Int) ≤ 64) = true := by simp; omega
      have c2 : decide ((n : Int) < 256 + (M : Int)) = true := by simp; omega
      have HN5 := Lib.hid hn5
      clear hna hn5 hcl
      go_wp2_with go_skip
      clear c2
      go_loopw [5, 7] (fun nv iv wq => ∃ (n i : Nat) (cl : List OT) (S : List Nat), nv = .int .i64 (n : Int) ∧ iv = .int .i64 (i : Int) ∧ ((1 ≤ i ∧ i ≤ 6 ∧ n = 5 * (a - 2) + (i - 1) ∧ n ≤ 256 + M) ∧ cl.length = min n 256 ∧ RInv (5 * a + i) cl) ∧ PairC w wq B p s0 cl S) (fun _ iv _ => 6 - (intOf iv).toNat)
      case atStart => exact ⟨n, 1, cl, S, rfl, rfl, ⟨⟨by omega, by omega, by have := HN5.out; omega, by omega⟩, HI.out.2⟩, HPR.out⟩
      case round =>
        have HA2 := Lib.hid ha2
        clear HI HPR hnlt hnT HN5
        rename World => wq
        obtain ⟨n2, i, cl2, S2, rfl, rfl, hinv, hpr⟩ := hrel
        have HI := Lib.hid hinv
        have HPR := Lib.hid hpr
        clear hinv hpr
        obtain ⟨⟨hi1, hi6, hn2, hn2T⟩, hcl, _⟩ := HI.out
        by_cases hgo : i ≤ 5 ∧ n2 < 256 + M
        · obtain ⟨hi5, hnlt⟩ := hgo
          have e1 : decide ((i : Int) ≤ 5) = true := by simp; omega
          have e2 : decide ((n2 : Int) < 256 + (M : Int)) = true := by simp; omega
          have w1 : IntKind.i64.wrap ((i : Int) + 1) = (i : Int) + 1 := by rw [IntKind.wrap_i64]; omega
          have w2 : IntKind.i64.wrap ((n2 : Int) + 1) = (n2 : Int) + 1 := by rw [IntKind.wrap_i64]; omega
          have HC := Lib.hid hcl
          have HN2 := Lib.hid hn2
          clear hn2 hcl
          by_cases hfull : n2 < 256
          · have e3 : decide ((256 : Int) < (n2 : Int) + 1) = false := by simp; omega
            have hlen : cl2.length < 256 := by have := HC.out; omega
            go_wp2_with (first | go_skip | (go_at_call 12; (with_reducible (refine (opr_any ha64 hi5 _).mono ?_)); rintro e wn ⟨rfl, hbn⟩; have HP1 := Lib.hid (HPR.out.step hbn); clear HPR hbn; have HPR := HP1; clear HP1) | (go_at_call 11; (with_reducible (refine (add_more HPR.out HW.out HA2.out ha64 hi1 hi5 HI.out.2.2 hlen).mono ?_)); rintro e wn ⟨rfl, cl', S', hp', hr', hl'⟩; have HP' := Lib.hid hp'; have HR' := Lib.hid hr'; have HL' := Lib.hid hl'; clear hp' hr' hl'))
            go_roundw
            case rel => exact ⟨n2 + 1, i + 1, cl', S', by go_num, by go_num, ⟨⟨by omega, by omega, by have := HN2.out; omega, by omega⟩, by have := HL'.out; have := HC.out; omega, HR'.out⟩, HP'.out⟩
            case measure => simp [intOf]; omega
          · have e3 : decide ((256 : Int) < (n2 : Int) + 1) = true := by simp; omega
            have hlen : cl2.length = 256 := by have := HC.out; omega
            have HLE := Lib.hid hlen
            clear hlen
            go_wp2_with (first | go_skip | (go_at_call 12; (with_reducible (refine (opr_any ha64 hi5 _).mono ?_)); rintro e wn ⟨rfl, hbn⟩; have HP1 := Lib.hid (HPR.out.step hbn); clear HPR hbn; have HPR := HP1; clear HP1) | (go_at_call 11; (with_reducible (refine (add_full HPR.out HW.out HA2.out ha64 hi1 hi5 HI.out.2.2 HLE.out).mono ?_)); rintro e wn ⟨rfl, cl', S', hp', hr', hl'⟩; have HP' := Lib.hid hp'; have HR' := Lib.hid hr'; have HL' := Lib.hid hl'; clear hp' hr' hl'))
            go_roundw
            case rel => exact ⟨n2 + 1, i + 1, cl', S', by go_num, by go_num, ⟨⟨by omega, by omega, by have := HN2.out; omega, by omega⟩, by have := HL'.out; omega, HR'.out⟩, HP'.out⟩
            case measure => simp [intOf]; omega
        · have HN2 := Lib.hid hn2
          have HC := Lib.hid hcl
          clear hn2 hcl
          have HRX := Lib.hid (show RInv (5 * (a + 1) + 1) cl2 from HI.out.2.2.more (by omega))
          by_cases hi5 : i ≤ 5
          · have e1 : decide ((i : Int) ≤ 5) = true := by simp; omega
            have e2 : decide ((n2 : Int) < 256 + (M : Int)) = false := by simp; omega
            have hnT : n2 = 256 + M := by omega
            have HNT := Lib.hid hnT
            clear hnT hgo
            go_wp2_with go_skip
            go_roundw
            case rel => exact ⟨n2, a + 1, cl2, S2, rfl, by go_num, ⟨⟨by omega, by omega, .inr HNT.out, hn2T⟩, HC.out, HRX.out⟩, HPR.out⟩
            case measure => simp [intOf]; omega
          · have e1 : decide ((i : Int) ≤ 5) = false := by simp; omega
            clear hgo
            go_wp2_with go_skip
            go_roundw
            case rel => exact ⟨n2, a + 1, cl2, S2, rfl, by go_num, ⟨⟨by omega, by omega, .inl (by have := HN2.out; omega), hn2T⟩, HC.out, HRX.out⟩, HPR.out⟩
            case measure => simp [intOf]; omega
    · have hnT : n = 256 + M := by omega
      have hl : (cl.length : Int) = 256 := by omega
      have HLI := Lib.hid hl
      clear hna hcl hl hnT
      by_cases ha64 : a ≤ 64
      · have c1 : decide ((a : Int) ≤ 64) = true := by simp; omega
        have c2 : decide ((n : Int) < 256 + (M : Int)) = false := by simp; omega
        clear hgo
        go_wp2_with (first | go_skip | (go_at_call 13; (with_reducible (refine (len_known HPR.out HLI.out).mono ?_)); rintro e wn ⟨rfl, hbn⟩; have HP1 := Lib.hid (HPR.out.step hbn); clear HPR hbn; have HPR := HP1; clear HP1))
        go_ret
        exact ⟨rfl, HPR.out.below⟩
      · have c1 : decide ((a : Int) ≤ 64) = false := by simp; omega
        clear hgo
        go_wp2_with (first | go_skip | (go_at_call 13; (with_reducible (refine (len_known HPR.out HLI.out).mono ?_)); rintro e wn ⟨rfl, hbn⟩; have HP1 := Lib.hid (HPR.out.step hbn); clear HPR hbn; have HPR := HP1; clear HP1))
        go_ret
        exact ⟨rfl, HPR.out.below⟩
set_option maxRecDepth 100000 in
set_option maxHeartbeats 4000000 in
theorem readyRoom_skip (nI : Int) (h : nI < 1 ∨ 20 < nI) : Calls Tryz.prog 5 #[.int .i64 nI] w fun e w' => e = .returned (.bool true) ∧ Below w.heap.size w w' := by
  have HW := Lib.hid hw
  clear hw
  by_cases h1 : nI < 1
  · have d1 : decide (nI < 1) = true := by simp; omega
    clear h
    go_enter Tryz.func5, Tryz.ntmps5
    go_wp2_with (first | go_skip | (go_at_call 8; (with_reducible (refine (awake25_any _ HW.out).mono ?_)); rintro e wn ⟨rfl, hbn⟩; have HA := Lib.hid hbn; clear hbn))
    go_ret
    exact ⟨rfl, HA.out⟩
  · have d1 : decide (nI < 1) = false := by simp; omega
    have d2 : decide (20 < nI) = true := by simp; omega
    clear h
    go_enter Tryz.func5, Tryz.ntmps5
    go_wp2_with (first | go_skip | (go_at_call 8; (with_reducible (refine (awake25_any _ HW.out).mono ?_)); rintro e wn ⟨rfl, hbn⟩; have HA := Lib.hid hbn; clear hbn))
    go_ret
    exact ⟨rfl, HA.out⟩
end
/-- As the card wants it. -/
theorem readyRoom_card (nI : Int) (w : World) (hw : Vars w) (_hn : (Lit.int .i64 nI).wf = true) : Calls Tryz.prog 5 #[.int .i64 nI] w fun e w' => e = .returned (.bool true) ∧ Below w.heap.size w w' := by
  by_cases h : nI < 1 ∨ 20 < nI
  · exact readyRoom_skip w hw nI h
  · obtain ⟨N, rfl⟩ : ∃ N : Nat, nI = (N : Int) := ⟨nI.toNat, by omega⟩
    exact readyRoom_go w hw N (by omega) (by omega)
end Go.Proofs.YtffcpmohanhihaaGreatDoor
