/-
  Law 25's own first look: what it does of known operations.
  ReadyKnown, walked.
  ReadyAll, walked.
-/
import Derived.Test.YtffcpmohanhihaaGreatDoorJ22
import Derived.Test.YtffcpmohanhihaaGreatDoorJ24
import Derived.Test.YtffcpmohanhihaaGreatDoorJ14
namespace Go.Proofs.YtffcpmohanhihaaGreatDoor
open Go.RowKit
set_option linter.unusedVariables false
set_option linter.unusedSimpArgs false
def xa : OT := opv25 1 2 2 1 7
def xb : OT := opv25 1 1 1 0 5
theorem xa_fit : Fit25 1 2 2 1 7 := ⟨by decide, by decide, by decide, by decide, by decide⟩
theorem xb_fit : Fit25 1 1 1 0 5 := ⟨by decide, by decide, by decide, by decide, by decide⟩
def a1 : AddV := addF s0 [] xa
def a2 : AddV := addF a1.s a1.L xb
theorem a1_n : a1.n = 0 := of_decide_eq_true (by kernel_rfl)
theorem a1_r : a1.r = 0 := of_decide_eq_true (by kernel_rfl)
theorem a1_l : a1.L.length = 1 := of_decide_eq_true (by kernel_rfl)
theorem a2_n : a2.n = 2 := of_decide_eq_true (by kernel_rfl)
theorem a2_r : a2.r = 0 := of_decide_eq_true (by kernel_rfl)
theorem a2_l : a2.L.length = 0 := of_decide_eq_true (by kernel_rfl)
theorem a2_v : (vcells a2.s.v)[0]? = some (.int .i64 2) := by kernel_rfl
theorem a1_is : addF s0 [] xa = a1 := rfl
theorem a2_is : addF a1.s a1.L xb = a2 := rfl
theorem xa_m : xa.o.M = 0 := rfl
theorem xb_m : xb.o.M = 0 := rfl
theorem xa_can : xa.can = xa := rfl
theorem xb_can : xb.can = xb := rfl
theorem a0_room : ([] : List OT).length ≤ 256 := by decide
theorem a1_room : a1.L.length ≤ 256 := by rw [a1_l]; decide
theorem xa_any (w : World) : Calls Tryz.prog 12 #[.int .i64 1, .int .i64 2, .int .i64 2, .int .i64 1, .int .i64 7] w fun e w' => e = .returned (opv xa.o) ∧ Below w.heap.size w w' := op25_any 1 2 2 1 7 w xa_fit
theorem xb_any (w : World) : Calls Tryz.prog 12 #[.int .i64 1, .int .i64 1, .int .i64 1, .int .i64 0, .int .i64 5] w fun e w' => e = .returned (opv xb.o) ∧ Below w.heap.size w w' := op25_any 1 1 1 0 5 w xb_fit
/-- Add, with what it says known. -/
def AddK (w0 w : World) (B : DB) (p : Nat) (S : List Nat) (a : AddV) (n r : Int) (e : Ending) (w' : World) : Prop :=
  ∃ S', e = .returned (.tuple #[.int .i64 n, .int .i64 r]) ∧ PairC w0 w' B p a.s a.L S' ∧ ButS S w w' ∧ ∀ k ∈ S', k ∈ S ∨ w.heap.size ≤ k
theorem add_known {w0 w : World} {B : DB} {p : Nat} {cs : DocS} {cl : List OT} {S : List Nat} {x y : OT} {a : AddV} {n r : Int} (h : PairC w0 w B p cs cl S) (hw0 : Vars w0) (hL : cl.length ≤ 256) (hx : OT.Ok x) (hxm : x.o.M = 0) (hc : x.can = y) (ha : addF cs cl y = a) (hn : a.n = n) (hr : a.r = r) : Calls Tryz.prog 11 #[.pointer (some ⟨p, 0, none⟩), .pointer (some ⟨B.d, 0, none⟩), opv x.o] w fun e w' => AddK w0 w B p S a n r e w' := by
  subst ha hn hr
  exact addC_any h hw0 hL hx hxm hc
theorem xa_ok : OT.Ok xa := opv25_ok xa_fit
theorem xb_ok : OT.Ok xb := opv25_ok xb_fit
theorem len_known {w0 w : World} {B : DB} {p : Nat} {cs : DocS} {cl : List OT} {S : List Nat} {n : Int} (h : PairC w0 w B p cs cl S) (hn : (cl.length : Int) = n) : Calls Tryz.prog 13 #[.pointer (some ⟨p, 0, none⟩)] w fun e w' => e = .returned (.int .i64 n) ∧ Below w.heap.size w w' := by
  subst hn; exact lenC_any h
theorem len_of {w0 w : World} {p : Nat} {cl : List OT} {n : Int} (h : BufC w0 w p cl) (hn : (cl.length : Int) = n) : Calls Tryz.prog 13 #[.pointer (some ⟨p, 0, none⟩)] w fun e w' => e = .returned (.int .i64 n) ∧ Below w.heap.size w w' := by
  subst hn; exact h.len
theorem wait_known {w0 w : World} {B : DB} {p : Nat} {cs : DocS} {cl : List OT} {S : List Nat} {n : Nat} (h : PairC w0 w B p cs cl S) (hn : cl.length = n) (hm : cl.length ≤ 100000) : Calls Tryz.prog 17 #[.pointer (some ⟨p, 0, none⟩)] w fun e w' => ∃ A c, e = .returned (.slice A n c) ∧ Below w.heap.size w w' :=
  (waitC_any h hm).mono fun e w' hW => by
    unfold WaitC at hW
    obtain ⟨M, A', c', he, hl, _, _, hb⟩ := hW
    exact ⟨A', c', by rw [he, hl, hn], hb⟩
theorem BufC.step {w0 W W' : World} {p : Nat} {cl : List OT} (h : BufC w0 W p cl) (hb : Below W.heap.size W W') : BufC w0 W' p cl := h.stay (T := []) (ButS.of_below hb) (fun k hk => by cases hk)
theorem a1_big : a1.L.length ≤ 100000 := by rw [a1_l]; decide
theorem a1_li : (a1.L.length : Int) = 1 := by rw [a1_l]; rfl
theorem a2_li : (a2.L.length : Int) = 0 := by rw [a2_l]; rfl
theorem a2_at (W : World) : (Instr.index 33 (.agg (vcells a2.s.v)) (.int .i64 0)).run Tryz.prog W = .ok (.int .i64 2) W := by kernel_rfl
set_option maxRecDepth 100000 in
set_option maxHeartbeats 4000000 in
theorem awake25_any (w : World) (hw : Vars w) : Calls Tryz.prog 8 #[] w fun e w' => e = .returned (.bool true) ∧ Below w.heap.size w w' := by
  have HW := Lib.hid hw
  clear hw
  go_enter Tryz.func8, Tryz.ntmps8
  go_upto_region 5 with (first | go_skip | (go_at_call 9; (with_reducible (refine (bNew_any _).mono ?_)); rintro e wa ⟨p, rfl, hb⟩; have HB := Lib.hid hb; clear hb) | (go_at_call 10; (with_reducible (refine (dNew_any _).mono ?_)); rintro e wb ⟨B, rfl, hd⟩; have HP := Lib.hid (PairC.new HB.out hd); clear HB hd) | (go_at_call 12; (with_reducible (refine (xa_any _).mono ?_)); rintro e wn ⟨rfl, hbn⟩; have HP1 := Lib.hid (HP.out.step hbn); clear HP hbn; have HP := HP1; clear HP1) | (go_at_call 11; (with_reducible (refine (add_known HP.out HW.out a0_room xa_ok xa_m xa_can a1_is a1_n a1_r).mono ?_)); rintro e wn ⟨S, rfl, hp, hbn, hs⟩; have HP1 := Lib.hid hp; clear HP hp hbn hs; have HP := HP1; clear HP1))
  go_upto_region 6 with (first | go_skip | (go_at_call 17; (with_reducible (refine (wait_known HP.out a1_l a1_big).mono ?_)); rintro e wn ⟨A, c, rfl, hbn⟩; have HP1 := Lib.hid (HP.out.step hbn); clear HP hbn; have HP := HP1; clear HP1))
  go_upto_region 7 with (first | go_skip | (go_at_call 21; have HSL := Lib.hid (fun k hk => (HP.out.lt k hk).2); (with_reducible (refine (copyC_any HP.out a1_big).mono ?_)); rintro e wn ⟨p2, rfl, hc, hbn⟩; have HP1 := Lib.hid (HP.out.step hbn); have HC := Lib.hid hc; clear HP hbn hc; have HP := HP1; clear HP1))
  go_upto_region 8 with (first | go_skip | (go_at_call 12; (with_reducible (refine (xb_any _).mono ?_)); rintro e wn ⟨rfl, hbn⟩; have HP1 := Lib.hid (HP.out.step hbn); have HC1 := Lib.hid (HC.out.step hbn); clear HP HC hbn; have HP := HP1; have HC := HC1; clear HP1 HC1) | (go_at_call 11; (with_reducible (refine (add_known HP.out HW.out a1_room xb_ok xb_m xb_can a2_is a2_n a2_r).mono ?_)); rintro e wn ⟨S2, rfl, hp, hbn, hs⟩; have HC1 := Lib.hid (HC.out.stay hbn HSL.out); have HP1 := Lib.hid hp; clear HP HC hp hbn hs; have HP := HP1; have HC := HC1; clear HP1 HC1))
  have hix := a2_at
  go_wp2_with (first | go_skip | (go_at_call 13; (with_reducible (refine (len_known HP.out a2_li).mono ?_)); rintro e wn ⟨rfl, hbn⟩; have HP1 := Lib.hid (HP.out.step hbn); have HC1 := Lib.hid (HC.out.step hbn); clear HP HC hbn; have HP := HP1; have HC := HC1; clear HP1 HC1) | (go_at_call 13; (with_reducible (refine (len_of HC.out a1_li).mono ?_)); rintro e wn ⟨rfl, hbn⟩; have HP1 := Lib.hid (HP.out.step hbn); have HC1 := Lib.hid (HC.out.step hbn); clear HP HC hbn; have HP := HP1; have HC := HC1; clear HP1 HC1) | (go_at_call 14; (with_reducible (refine (vecC_any HP.out).mono ?_)); rintro e wn ⟨rfl, hbn⟩; have HP1 := Lib.hid (HP.out.step hbn); clear HP hbn; have HP := HP1; clear HP1))
  go_ret
  exact ⟨rfl, HP.out.below⟩
end Go.Proofs.YtffcpmohanhihaaGreatDoor
namespace Go.Proofs.YtffcpmohanhihaaGreatDoor
open Go.RowKit
set_option linter.unusedVariables false
set_option linter.unusedSimpArgs false
def xc : OT := opv25 2 1 5 0 1
theorem xc_fit : Fit25 2 1 5 0 1 := ⟨by decide, by decide, by decide, by decide, by decide⟩
theorem xc_any (w : World) : Calls Tryz.prog 12 #[.int .i64 2, .int .i64 1, .int .i64 5, .int .i64 0, .int .i64 1] w fun e w' => e = .returned (opv xc.o) ∧ Below w.heap.size w w' := op25_any 2 1 5 0 1 w xc_fit
theorem xc_ok : OT.Ok xc := opv25_ok xc_fit
theorem xc_m : xc.o.M = 0 := rfl
theorem xc_can : xc.can = xc := rfl
theorem zOT_m : zOT.o.M = 0 := rfl
def zC : OT := zOT.can
theorem zOT_can : zOT.can = zC := rfl
def k2 : AddV := addF a1.s a1.L xa
def k3 : AddV := addF k2.s k2.L zC
def k4 : AddV := addF k3.s k3.L xc
def k5 : AddV := addF k4.s k4.L xc
theorem k2_is : addF a1.s a1.L xa = k2 := rfl
theorem k3_is : addF k2.s k2.L zC = k3 := rfl
theorem k4_is : addF k3.s k3.L xc = k4 := rfl
theorem k5_is : addF k4.s k4.L xc = k5 := rfl
theorem k2_n : k2.n = 0 := of_decide_eq_true (by kernel_rfl)
theorem k2_r : k2.r = 5 := of_decide_eq_true (by kernel_rfl)
theorem k2_l : k2.L.length = 1 := of_decide_eq_true (by kernel_rfl)
theorem k2_room : k2.L.length ≤ 256 := by rw [k2_l]; decide
theorem k3_n : k3.n = 0 := of_decide_eq_true (by kernel_rfl)
theorem k3_r : k3.r = 11 := of_decide_eq_true (by kernel_rfl)
theorem k3_l : k3.L.length = 1 := of_decide_eq_true (by kernel_rfl)
theorem k3_room : k3.L.length ≤ 256 := by rw [k3_l]; decide
theorem k4_n : k4.n = 1 := of_decide_eq_true (by kernel_rfl)
theorem k4_r : k4.r = 0 := of_decide_eq_true (by kernel_rfl)
theorem k4_l : k4.L.length = 1 := of_decide_eq_true (by kernel_rfl)
theorem k4_room : k4.L.length ≤ 256 := by rw [k4_l]; decide
theorem k5_n : k5.n = 0 := of_decide_eq_true (by kernel_rfl)
theorem k5_r : k5.r = 5 := of_decide_eq_true (by kernel_rfl)
theorem k5_li : (k5.L.length : Int) = 1 := of_decide_eq_true (by kernel_rfl)
theorem opv_z : opv zOT.o = .agg zeroO.c := by kernel_rfl
theorem add_z {w0 w : World} {B : DB} {p : Nat} {S : List Nat} (h : PairC w0 w B p k2.s k2.L S) (hw0 : Vars w0) : Calls Tryz.prog 11 #[.pointer (some ⟨p, 0, none⟩), .pointer (some ⟨B.d, 0, none⟩), .agg zeroO.c] w fun e w' => AddK w0 w B p S k3 0 11 e w' := by
  have q := add_known h hw0 k2_room zOT_ok zOT_m zOT_can k3_is k3_n k3_r
  rw [opv_z] at q
  exact q
theorem owns_low {W : World} {base base' : Nat} {e : TypeId} {size : Nat} {v : Value} {n : Nat} {xs : List Value} (h : W.ownsRow base e size v n xs) (hb : base' ≤ base) : W.ownsRow base' e size v n xs := by
  refine ⟨h.1, ?_⟩
  rcases h.2 with q | ⟨g, cap, cur, h1, h2, h3⟩
  · exact .inl q
  · exact .inr ⟨g, cap, cur, h1, Nat.le_trans hb h2, h3⟩
theorem Pair.base {w w0 W : World} {B : DB} {p : Nat} {s : DocS} {A : Option Addr} {c : Nat} {L : List OT} (h : Pair w0 W B p s A c L) (hb : Below w.heap.size w w0) : Pair w W B p s A c L :=
  ⟨⟨hb.trans (h.bx.below.mono hb.size), fun i q hq => ⟨Nat.le_trans hb.size (h.bx.rows i q hq).1, (h.bx.rows i q hq).2⟩, h.bx.apart⟩, ⟨h.buf.at_, ⟨owns_low h.buf.row.own hb.size, h.buf.row.ok⟩, h.buf.ap, Nat.le_trans hb.size h.buf.b⟩, h.np, h.ap, h.ok, h.m0⟩
theorem PairC.base {w w0 W : World} {B : DB} {p : Nat} {cs : DocS} {cl : List OT} {S : List Nat} (h : PairC w0 W B p cs cl S) (hb : Below w.heap.size w w0) : PairC w W B p cs cl S := by
  obtain ⟨s, A, c, L, hP, e⟩ := h
  exact ⟨s, A, c, L, hP.base hb, e⟩
set_option maxRecDepth 100000 in
set_option maxHeartbeats 4000000 in
theorem readyKnown_any (w : World) (hw : Vars w) : Calls Tryz.prog 3 #[] w fun e w' => e = .returned (.bool true) ∧ Below w.heap.size w w' := by
  have HW := Lib.hid hw
  clear hw
  go_enter Tryz.func3, Tryz.ntmps3
  go_upto_region 3 with (first | go_skip | (go_at_call 8; (with_reducible (refine (awake25_any _ HW.out).mono ?_)); rintro e wn ⟨rfl, hbn⟩; have HA := Lib.hid hbn; clear hbn))
  go_upto_region 5 with (first | go_skip | (go_at_call 9; (with_reducible (refine (bNew_any _).mono ?_)); rintro e wa ⟨p, rfl, hb⟩; have HB := Lib.hid hb; clear hb) | (go_at_call 10; (with_reducible (refine (dNew_any _).mono ?_)); rintro e wb ⟨B, rfl, hd⟩; have HP := Lib.hid ((PairC.new HB.out hd).base HA.out); clear HB hd) | (go_at_call 12; (with_reducible (refine (xa_any _).mono ?_)); rintro e wn ⟨rfl, hbn⟩; have HP1 := Lib.hid (HP.out.step hbn); clear HP hbn; have HP := HP1; clear HP1) | (go_at_call 11; (with_reducible (refine (add_known HP.out HW.out a0_room xa_ok xa_m xa_can a1_is a1_n a1_r).mono ?_)); rintro e wn ⟨S, rfl, hp, hbn, hs⟩; have HP1 := Lib.hid hp; clear HP hp hbn hs; have HP := HP1; clear HP1))
  go_upto_region 6 with (first | go_skip | (go_at_call 12; (with_reducible (refine (xa_any _).mono ?_)); rintro e wn ⟨rfl, hbn⟩; have HP1 := Lib.hid (HP.out.step hbn); clear HP hbn; have HP := HP1; clear HP1) | (go_at_call 11; (with_reducible (refine (add_known HP.out HW.out a1_room xa_ok xa_m xa_can k2_is k2_n k2_r).mono ?_)); rintro e wn ⟨S, rfl, hp, hbn, hs⟩; have HP1 := Lib.hid hp; clear HP hp hbn hs; have HP := HP1; clear HP1))
  go_upto_region 7 with (first | go_skip | (go_at_call 11; rw [zero_cells]; (with_reducible (refine (add_z HP.out HW.out).mono ?_)); rintro e wn ⟨S, rfl, hp, hbn, hs⟩; have HP1 := Lib.hid hp; clear HP hp hbn hs; have HP := HP1; clear HP1))
  go_upto_region 8 with (first | go_skip | (go_at_call 12; (with_reducible (refine (xc_any _).mono ?_)); rintro e wn ⟨rfl, hbn⟩; have HP1 := Lib.hid (HP.out.step hbn); clear HP hbn; have HP := HP1; clear HP1) | (go_at_call 11; (with_reducible (refine (add_known HP.out HW.out k3_room xc_ok xc_m xc_can k4_is k4_n k4_r).mono ?_)); rintro e wn ⟨S, rfl, hp, hbn, hs⟩; have HP1 := Lib.hid hp; clear HP hp hbn hs; have HP := HP1; clear HP1))
  go_upto_region 9 with (first | go_skip | (go_at_call 12; (with_reducible (refine (xc_any _).mono ?_)); rintro e wn ⟨rfl, hbn⟩; have HP1 := Lib.hid (HP.out.step hbn); clear HP hbn; have HP := HP1; clear HP1) | (go_at_call 11; (with_reducible (refine (add_known HP.out HW.out k4_room xc_ok xc_m xc_can k5_is k5_n k5_r).mono ?_)); rintro e wn ⟨S, rfl, hp, hbn, hs⟩; have HP1 := Lib.hid hp; clear HP hp hbn hs; have HP := HP1; clear HP1))
  go_wp2_with (first | go_skip | (go_at_call 13; (with_reducible (refine (len_known HP.out k5_li).mono ?_)); rintro e wn ⟨rfl, hbn⟩; have HP1 := Lib.hid (HP.out.step hbn); clear HP hbn; have HP := HP1; clear HP1))
  go_ret
  exact ⟨rfl, HP.out.below⟩
end Go.Proofs.YtffcpmohanhihaaGreatDoor
namespace Go.Proofs.YtffcpmohanhihaaGreatDoor
open Go.RowKit Go.Sort
set_option linter.unusedVariables false
set_option linter.unusedSimpArgs false
set_option linter.unusedSectionVars false
noncomputable def ra10 : Array Oper := regOf Tryz.f4 10
theorem vm_at (N : Nat) (W : World) : (Instr.index 33 (.agg (vcells (vm N))) (.int .i64 0)).run Tryz.prog W = .ok (.int .i64 (N : Int)) W :=
  run_index_vec (P := Tryz.prog) 33 2 Tryz.underlying33 Tryz.underlying2 (by kernel_rfl) (vm N) rfl 0 (by decide) W
theorem vec_known {w0 w : World} {B : DB} {p : Nat} {cs : DocS} {cl : List OT} {S : List Nat} {v : List Int} (h : PairC w0 w B p cs cl S) (hv : cs.v = v) : Calls Tryz.prog 14 #[.pointer (some ⟨B.d, 0, none⟩)] w fun e w' => e = .returned (.agg (vcells v)) ∧ Below w.heap.size w w' := by
  subst hv; exact vecC_any h
theorem opi_any {j : Nat} (hj : j < 40) {q : Int} (hq : q = ((j + 1 : Nat) : Int)) (w : World) : Calls Tryz.prog 12 #[.int .i64 1, .int .i64 q, .int .i64 q, .int .i64 (q - 1), .int .i64 1] w fun e w' => e = .returned (opv (opi (j + 1)).o) ∧ Below w.heap.size w w' := by
  subst hq
  exact op25_any 1 _ _ _ 1 w (opi_fit (by omega))
theorem inv_start {N : Nat} (h : N ≤ 40) : Inv25 N 0 s0 [] := ⟨h, Nat.zero_le _, s0_SI, fun x hx => (by cases hx), fun j hj => (by cases hj)⟩
/-- An Add of the first replica's, between two looks. -/
theorem add_opi {w0 w : World} {B : DB} {p n m : Nat} {cs : DocS} {cl : List OT} {S : List Nat} (h : PairC w0 w B p cs cl S) (hw0 : Vars w0) (hi : Inv25 n m cs cl) {j : Nat} (hj : j < n) (hl : cl.length < 256) : Calls Tryz.prog 11 #[.pointer (some ⟨p, 0, none⟩), .pointer (some ⟨B.d, 0, none⟩), opv (opi (j + 1)).o] w fun e w' => ∃ v, e = .returned v ∧ ∃ m' cs' cl' S', PairC w0 w' B p cs' cl' S' ∧ Inv25 n m' cs' cl' ∧ (∀ i, Has i m cl → Has i m' cl') ∧ Has j m' cl' ∧ cl'.length ≤ cl.length + 1 :=
  (addC_any h hw0 (by omega) (opi_ok (by have := hi.hn; omega)) (opi_m _) (opi_can _)).mono fun e w' hA => by
    unfold AddC at hA
    obtain ⟨S', he, hp, _, _⟩ := hA
    obtain ⟨m', h1, h2, h3, h4⟩ := add_inv hi hj hl
    exact ⟨_, he, m', _, _, S', hp, h1, h2, h3, h4⟩
section
variable (A : Option Addr) (g o c : Nat) (L : List Int) (w : World) (hw : Vars w) (hN : NumsIn w.heap.size w A g o L)
include hw hN
set_option maxRecDepth 100000 in
set_option maxHeartbeats 4000000 in
theorem readyAll_go (N : Nat) (h1 : 1 ≤ N) (h40 : N ≤ 40) (hL : L.length ≤ 100) : Calls Tryz.prog 4 #[.int .i64 (N : Int), .slice A L.length c] w fun e w' => e = .returned (.bool true) ∧ Below w.heap.size w w' := by
  have HW := Lib.hid hw
  have HN := Lib.hid hN
  have d1 : decide ((N : Int) < 1) = false := by simp; omega
  have d2 : decide ((40 : Int) < (N : Int)) = false := by simp; omega
  have d3 : decide ((100 : Int) < L.length) = false := by simp; omega
  clear hw hN
  go_enter Tryz.func4, Tryz.ntmps4
  go_upto_region 3 with (first | go_skip | (go_at_call 8; (with_reducible (refine (awake25_any _ HW.out).mono ?_)); rintro e wn ⟨rfl, hbn⟩; have HA := Lib.hid hbn; clear hbn))
  go_upto_region 5 with go_skip
  go_upto_region 6 with (first | go_skip | (go_at_call 9; (with_reducible (refine (bNew_any _).mono ?_)); rintro e wa ⟨p, rfl, hb⟩; have HB := Lib.hid hb; clear hb) | (go_at_call 10; (with_reducible (refine (dNew_any _).mono ?_)); rintro e wb ⟨B, rfl, hd⟩; have HP := Lib.hid ((PairC.new HB.out hd).base HA.out); clear HB hd))
  go_wp2_with go_skip
  go_loopw [7] (fun iv wr => ∃ (i m : Nat) (cs : DocS) (cl : List OT) (S : List Nat), i ≤ L.length ∧ iv = .int .i64 (i : Int) ∧ (Inv25 N m cs cl ∧ cl.length ≤ i) ∧ PairC w wr B p cs cl S) (fun iv _ => L.length - (intOf iv).toNat)
  case atStart => exact ⟨0, 0, _, _, _, Nat.zero_le _, rfl, ⟨inv_start h40, Nat.le_refl _⟩, HP.out⟩
  case round =>
    rename World => wr
    obtain ⟨i, m, cs, cl, S, hi, rfl, ⟨hinv, hcl⟩, hpr⟩ := hrel
    have HI := Lib.hid hinv
    have HPR := Lib.hid hpr
    clear hinv hpr HP
    by_cases hlt : i < L.length
    · have hltb : decide ((i : Int) < L.length) = true := by simp; omega
      obtain ⟨q, hq⟩ : ∃ q, L[i]? = some q := ⟨_, List.getElem?_eq_getElem hlt⟩
      have ix := HN.out.ix hlt c
      have k2 : wr.cell? ⟨g, o + i, none⟩ = some (.int .i64 q) := (HN.out.move HPR.out.below).c i q hq
      clear hq
      by_cases q1 : 1 ≤ q
      · have q1b : decide (1 ≤ q) = true := by simp; omega
        by_cases qn : q ≤ N
        · have qnb : decide (q ≤ N) = true := by simp; omega
          obtain ⟨j, hj⟩ : ∃ j : Nat, q = ((j + 1 : Nat) : Int) := ⟨(q - 1).toNat, by omega⟩
          have hjN : j < N := by omega
          have HJ := Lib.hid hj
          have hw1 : IntKind.i64.wrap (q - 1) = q - 1 := by rw [IntKind.wrap_i64]; omega
          clear hj
          go_upto_region 10 with go_skip
          have k3 := cell_regrown k2
          have cO := grown_calls (w := wr) (fun W' hb => opi_any (by omega) HJ.out W')
          refine wp_region_deed ra10 (by kernel_rfl) 16 (by kernel_rfl) (by kernel_rfl) (by kernel_rfl) (by decide) (by kernel_rfl) (by kernel_rfl) (fun _ W => ∃ m' cs' cl' S', PairC w W B p cs' cl' S' ∧ Inv25 N m' cs' cl' ∧ (∀ i, Has i m cl → Has i m' cl') ∧ Has j m' cl' ∧ cl'.length ≤ cl.length + 1) ?_
          simp only [List.take_succ_cons, List.take_zero]
          repeat (first | go_big_quiet_skip | (quiet_step (with_reducible exact cO _ _)))
          refine wpQuiet_nil ?_
          intro o1 ho
          simp only [List.getElem?_toArray, List.getElem?_cons_succ, List.getElem?_cons_zero, Option.some.injEq] at ho
          subst ho
          refine ⟨rfl, ?_, ?_⟩
          · intro W hW
            exact gives_call_ex #[.tmp 43, .tmp 44, .tmp 58] #[23, 25, 40] rfl (f := 11) Tryz.func11 (by kernel_rfl) rfl #[.pointer (some ⟨p, 0, none⟩), .pointer (some ⟨B.d, 0, none⟩), opv (opi (j + 1)).o] (by simp only [List.map_toArray, List.map_cons, List.map_nil]; rfl) (add_opi (HPR.out.step hW) HW.out HI.out hjN (by omega))
          rintro v W ⟨m', cs', cl', S', hp', hi', _, _, hl'⟩
          have HP' := Lib.hid hp'
          have HI' := Lib.hid hi'
          clear hp' hi' cO k3 k2 ix
          simp only [List.drop_succ_cons, List.drop_zero, Act.put, List.setIfInBounds_toArray, List.set_cons_zero, List.set_cons_succ]
          go_wp2_with go_skip
          go_roundw
          case rel => exact ⟨i + 1, m', cs', cl', S', hlt, by go_num, ⟨HI'.out, by omega⟩, HP'.out⟩
          case measure => simp [intOf]; omega
        · have qnb : decide (q ≤ N) = false := by simp; omega
          go_wp2_with go_skip
          go_roundw
          case rel => exact ⟨i + 1, m, cs, cl, S, hlt, by go_num, ⟨HI.out, by omega⟩, HPR.out⟩
          case measure => simp [intOf]; omega
      · have q1b : decide (1 ≤ q) = false := by simp; omega
        go_wp2_with go_skip
        go_roundw
        case rel => exact ⟨i + 1, m, cs, cl, S, hlt, by go_num, ⟨HI.out, by omega⟩, HPR.out⟩
        case measure => simp [intOf]; omega
    · have hltb : decide ((i : Int) < L.length) = false := by simp; omega
      have hcl2 : cl.length ≤ 100 := by omega
      have HPR0 := HPR
      have HI0 := HI
      clear HPR HI
      go_wp2_with go_skip
      go_loopw [8] (fun iv wr => ∃ (i m : Nat) (cs : DocS) (cl : List OT) (S : List Nat), i ≤ N ∧ iv = .int .i64 (i : Int) ∧ (Inv25 N m cs cl ∧ cl.length + i ≤ 100 + N ∧ ∀ k, i ≤ k → k < N → Has k m cl) ∧ PairC w wr B p cs cl S) (fun iv _ => (intOf iv).toNat)
      case atStart => exact ⟨N, m, cs, cl, S, Nat.le_refl _, rfl, ⟨HI0.out, by omega, fun k h1 h2 => by omega⟩, HPR0.out⟩
      case round =>
        clear HPR0 HI0 hcl hcl2 hltb
        rename World => wq
        obtain ⟨i2, m2, cs2, cl2, S2, hi2, rfl, hinv, hpr⟩ := hrel
        have HI := Lib.hid hinv
        have HPR := Lib.hid hpr
        clear hinv hpr
        rcases Nat.eq_zero_or_pos i2 with h0 | h0
        · subst h0
          obtain ⟨hme, rfl⟩ := inv_end HI.out.1 (fun k hk => HI.out.2.2 k (Nat.zero_le _) hk)
          have hix := vm_at N
          have HV : Hid (cs2.v = vm N) := Lib.hid (by rw [HI.out.1.si.v, hme])
          clear hme
          have hll : (([] : List OT).length : Int) = 0 := rfl
          go_wp2_with (first | go_skip | (go_at_call 14; (with_reducible (refine (vec_known HPR.out HV.out).mono ?_)); rintro e wn ⟨rfl, hbn⟩; have HP1 := Lib.hid (HPR.out.step hbn); clear HPR hbn; have HPR := HP1; clear HP1) | (go_at_call 13; (with_reducible (refine (len_known HPR.out hll).mono ?_)); rintro e wn ⟨rfl, hbn⟩; have HP1 := Lib.hid (HPR.out.step hbn); clear HPR hbn; have HPR := HP1; clear HP1))
          go_ret
          exact ⟨rfl, HPR.out.below⟩
        · obtain ⟨j, rfl⟩ : ∃ j, i2 = j + 1 := ⟨i2 - 1, by omega⟩
          obtain ⟨q, hq⟩ : ∃ q : Int, ((j + 1 : Nat) : Int) = q := ⟨_, rfl⟩
          rw [hq]
          have HJ := Lib.hid hq
          have hq1 : decide (1 ≤ q) = true := by simp; omega
          have hw1 : IntKind.i64.wrap (q - 1) = q - 1 := by rw [IntKind.wrap_i64]; omega
          have hroom : cl2.length < 256 := by have := HI.out.2.1; omega
          clear hq
          go_wp2_with (first | go_skip | (go_at_call 12; (with_reducible (refine (opi_any (show j < 40 by omega) HJ.out.symm _).mono ?_)); rintro e wn ⟨rfl, hbn⟩; have HP1 := Lib.hid (HPR.out.step hbn); clear HPR hbn; have HPR := HP1; clear HP1) | (go_at_call 11; (with_reducible (refine (add_opi HPR.out HW.out HI.out.1 hi2 hroom).mono ?_)); rintro e wn ⟨v, rfl, m', cs', cl', S', hp', hi', hh, hhj, hl'⟩; have HP' := Lib.hid hp'; have HI' := Lib.hid hi'; have HH := Lib.hid hh; have HHJ := Lib.hid hhj; clear hp' hi' hh hhj))
          go_roundw
          case rel =>
            refine ⟨j, m', cs', cl', S', by omega, ?_, ⟨HI'.out, by have := HI.out.2.1; omega, fun k h1 h2 => ?_⟩, HP'.out⟩
            · have := HJ.out
              congr 1
              omega
            · by_cases hkj : k = j
              · subst hkj; exact HHJ.out
              · exact HH.out k (HI.out.2.2 k (by omega) h2)
          case measure => have := HJ.out; simp [intOf]; omega
set_option maxRecDepth 100000 in
set_option maxHeartbeats 4000000 in
theorem readyAll_skip (nI : Int) (h : nI < 1 ∨ 40 < nI ∨ 100 < L.length) : Calls Tryz.prog 4 #[.int .i64 nI, .slice A L.length c] w fun e w' => e = .returned (.bool true) ∧ Below w.heap.size w w' := by
  have HW := Lib.hid hw
  clear hw hN
  by_cases h1 : nI < 1
  · have d1 : decide (nI < 1) = true := by simp; omega
    clear h
    go_enter Tryz.func4, Tryz.ntmps4
    go_wp2_with (first | go_skip | (go_at_call 8; (with_reducible (refine (awake25_any _ HW.out).mono ?_)); rintro e wn ⟨rfl, hbn⟩; have HA := Lib.hid hbn; clear hbn))
    go_ret
    exact ⟨rfl, HA.out⟩
  · have d1 : decide (nI < 1) = false := by simp; omega
    by_cases h2 : 40 < nI
    · have d2 : decide (40 < nI) = true := by simp; omega
      clear h
      go_enter Tryz.func4, Tryz.ntmps4
      go_wp2_with (first | go_skip | (go_at_call 8; (with_reducible (refine (awake25_any _ HW.out).mono ?_)); rintro e wn ⟨rfl, hbn⟩; have HA := Lib.hid hbn; clear hbn))
      go_ret
      exact ⟨rfl, HA.out⟩
    · have d2 : decide (40 < nI) = false := by simp; omega
      have d3 : decide ((100 : Int) < L.length) = true := by simp; omega
      clear h
      go_enter Tryz.func4, Tryz.ntmps4
      go_wp2_with (first | go_skip | (go_at_call 8; (with_reducible (refine (awake25_any _ HW.out).mono ?_)); rintro e wn ⟨rfl, hbn⟩; have HA := Lib.hid hbn; clear hbn))
      go_ret
      exact ⟨rfl, HA.out⟩
theorem readyAll_any (nI : Int) : Calls Tryz.prog 4 #[.int .i64 nI, .slice A L.length c] w fun e w' => e = .returned (.bool true) ∧ Below w.heap.size w w' := by
  by_cases h : nI < 1 ∨ 40 < nI ∨ 100 < L.length
  · exact readyAll_skip A g o c L w hw hN nI h
  · obtain ⟨N, rfl⟩ : ∃ N : Nat, nI = (N : Int) := ⟨nI.toNat, by omega⟩
    exact readyAll_go A g o c L w hw hN N (by omega) (by omega) (by omega)
end
/-- As the card wants it. -/
theorem readyAll_card (nI : Int) (A : Option Addr) (g o c : Nat) (L : List Int) (w : World) (hw : Vars w) (_hn : (Lit.int .i64 nI).wf = true) (hN : NumsIn w.heap.size w A g o L) : Calls Tryz.prog 4 #[.int .i64 nI, .slice A L.length c] w fun e w' => e = .returned (.bool true) ∧ Below w.heap.size w w' :=
  readyAll_any A g o c L w hw hN nI
end Go.Proofs.YtffcpmohanhihaaGreatDoor
