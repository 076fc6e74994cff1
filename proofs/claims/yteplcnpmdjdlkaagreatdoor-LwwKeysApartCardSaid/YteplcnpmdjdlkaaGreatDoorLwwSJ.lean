/-
  LwwKeysApart, walked: true. Condition: the library's variables as it lays them.
-/
import Derived.Test.YteplcnpmdjdlkaaGreatDoorLwwQJ
import Derived.Test.YteplcnpmdjdlkaaGreatDoorJ17
import Derived.Test.YteplcnpmdjdlkaaGreatDoorRegCJ
namespace Go.Proofs.YteplcnpmdjdlkaaGreatDoor
open Go.RowKit Go.Sort
set_option linter.unusedVariables false
set_option linter.unusedSimpArgs false
set_option linter.unusedSectionVars false
section
variable {P : Program} {o : Oper} {a : Act}
theorem quiet_build {C : World → Prop} {K : Act → Prop} (t : TypeId) (ps : Array (Nat × Operand)) (ho : o.op = .build t ps) (vs : Array (Nat × Value)) (hx : ps.map (fun p => (p.1, a.eval p.2)) = vs) (v : Value) (hr : ∀ w, (Instr.build t vs).run P w = .ok v w) (h : K (a.put o.dst v)) : o.quiet P a C K := by
  refine ⟨v, fun w hw => ?_, h⟩
  unfold Oper.quietAt execOp
  have hx' : (ps.map fun (i, x) => (i, a.eval x)) = vs := hx
  simp only [ho, Sem.run_bind, hx', hr, Result.andThen_ok, Sem.run_pure]
  exact ⟨rfl, rfl⟩
end
theorem gate_q {P : Program} {ops : Array Oper} {C : World → Prop} {E : Act → Prop} {o : Oper} {rest : List Oper} {a : Act} {op : Op} (_ : o.op = op) (h : wpQuiet P ops C E (o :: rest) a) : wpQuiet P ops C E (o :: rest) a := h
noncomputable def apart11 : Array Oper := regOf Tryz.f6 11
noncomputable def apart19 : Array Oper := regOf Tryz.f6 19
theorem pre_ok {b : UInt8} {x : WordV} (h : x.Ok) (hk : x.key.size ≤ 60) : (preW b x).Ok := ⟨h.r, h.t, h.n, by show ((⟨#[b]⟩ : ByteArray) ++ x.key).size ≤ _; rw [ByteArray.size_append]; show 1 + _ ≤ _; omega⟩
theorem word_seen (x : WordV) : x.op.o.seen.length = 64 := by unfold WordV.op; split <;> rfl
theorem word_vc (x : WordV) : x.op.o.vc = x.op.t.c := by unfold WordV.op; split <;> rfl
theorem pre_mk (b : UInt8) (x : WordV) (W : World) : (Instr.build 39 #[(0, .int .i64 x.R), (1, .int .i64 x.T), (2, .string (⟨#[b]⟩ ++ x.key)), (3, .bool x.off), (4, .int .i64 x.n)]).run Tryz.prog W = .ok (.agg (preW b x).c) W := word_mk _ _ _ _ _ W
theorem quiet_word {o : Oper} {a : Act} {C : World → Prop} {K : Act → Prop} (b : UInt8) (x : WordV) (t0 t1 t2 t3 t4 : Tmp) (ho : o.op = .build 39 #[(0, .tmp t0), (1, .tmp t1), (2, .tmp t2), (3, .tmp t3), (4, .tmp t4)]) (h0 : a.eval (.tmp t0) = .int .i64 x.R) (h1 : a.eval (.tmp t1) = .int .i64 x.T) (h2 : a.eval (.tmp t2) = .string (⟨#[b]⟩ ++ x.key)) (h3 : a.eval (.tmp t3) = .bool x.off) (h4 : a.eval (.tmp t4) = .int .i64 x.n) (h : K (a.put o.dst (.agg (preW b x).c))) : o.quiet Tryz.prog a C K := by
  refine quiet_build 39 _ ho _ rfl _ ?_ h
  intro w
  simp only [List.map_toArray, List.map_cons, List.map_nil, h0, h1, h2, h3, h4]
  exact pre_mk b x w
def headB8 (s : List UInt8) : Int := (s.headD 0).toNat
theorem idx_head (s : List UInt8) (hs : s ≠ []) (W : World) : (Instr.index 9 (.string (kb s)) (.int .i64 0)).run Tryz.prog W = .ok (.int .u8 (headB8 s)) W := by
  cases s with
  | nil => exact absurd rfl hs
  | cons a r =>
    simp [Instr.index, asIntOf, Sem.run_bind, run_underlying Tryz.underlying9, kb, headB8]
    rfl
theorem isL_head (s : List UInt8) (hs : s ≠ []) : isL s = (headB8 s == 108) := by
  cases s with
  | nil => exact absurd rfl hs
  | cons a r =>
    unfold isL headB8
    simp only [List.head?_cons, List.headD_cons]
    by_cases h : a = 108
    · subst h; rfl
    · have h1 : (some a == some (108 : UInt8)) = false := by simpa using h
      rw [h1]
      symm
      rw [beq_eq_false_iff_ne]
      intro h2
      exact h (UInt8.toNat_inj.1 (by have h3 : (a.toNat : Int) = 108 := h2; show a.toNat = 108; omega))
theorem index_arm {P : Program} {ops : Array Oper} {Q : Exit → Act → World → Prop} {o : Oper} {rest : List Oper} {a : Act} {w : World} (hwt : Region.wanted o (yielded ops a.tmps) = true) (t : TypeId) (x i : Operand) (ho : o.op = .index t x i) (xv iv : Value) (hx : a.eval x = xv) (hi : a.eval i = iv) (v : Value)
    (hr : (Instr.index t xv iv).run P w = .ok v w) (h : wpList P ops Q rest (a.put o.dst v) w) : wpList P ops Q (o :: rest) a w :=
  BigFrame.wpList_want hwt fun K hK => by
    subst hx hi
    have hrun : (execOp a.eval o).run P w = .ok (.value v) w := by
      unfold execOp
      simp only [ho, Sem.run_bind, hr, Result.andThen_ok, Sem.run_pure]
    unfold Oper.wp
    rw [hrun, Oper.upon_value]
    exact hK _ _ h
/-- What the two maps are behind some words. -/
structure Two (la lb : Wd) (j : Nat) : Prop where
  oa : WdOk la
  ob : WdOk lb
  na : la.length ≤ j
  nb : lb.length ≤ j
  tw : Twins la lb
section
variable (A1 : Option Addr) (g1 o1 c1 : Nat) (L : List WordV) (A2 : Option Addr) (g2 o2 c2 : Nat) (M : List WordV) (w : World) (hw : Vars w) (hL : WsIn w.heap.size w A1 g1 o1 L) (hM : WsIn w.heap.size w A2 g2 o2 M)
include hw hL hM
set_option maxRecDepth 100000 in
set_option maxHeartbeats 4000000 in
theorem apart_go (h20 : L.length ≤ 20) (h40 : M.length ≤ 20) : Calls Tryz.prog 6 #[.slice A1 L.length c1, .slice A2 M.length c2] w fun e w' => e = .returned (.bool true) ∧ Below w.heap.size w w' := by
  have HV := Lib.hid hw
  have HL := Lib.hid hL
  have HM := Lib.hid hM
  have d1 : decide ((20 : Int) < L.length) = false := by simp; omega
  have d2 : decide ((20 : Int) < M.length) = false := by simp; omega
  have hS := Boxes.start w
  clear hw hL hM
  go_enter Tryz.func6, Tryz.ntmps6
  go_upto_region 5 with (first | go_skip | (go_at_call 7; (with_reducible (refine (awake22_any _ (HV.out.step hS.below)).mono ?_)); rintro e wn ⟨rfl, hbn⟩; have hS1 := hS.step hbn; clear hS hbn; have hS := hS1; clear hS1))
  rename World => wr
  have HW := Lib.hid hS.below
  clear hS
  have hS := Boxes.start wr
  go_wp2_with (first | go_skip | (go_at_call 8; (with_reducible (refine (lNew_any _).mono ?_)); rintro e wn ⟨p, b, rfl, hbx⟩; have hS1 := hS.app hbx; simp only [List.nil_append, List.cons_append] at hS1; clear hS hbx; have hS := hS1; clear hS1))
  rename World => w3
  rename_i pa ba _ _
  go_loopw [7] (fun iv wz => ∃ (j : Nat) (la lb : Wd), j ≤ L.length ∧ iv = .int .i64 (j : Int) ∧ Two la lb j ∧ Boxes wr wz [(ba, wordsO la), (pa, headO ba), (b, wordsO lb), (p, headO b)]) (fun iv _ => L.length - (intOf iv).toNat)
  case atStart => exact ⟨0, [], [], Nat.zero_le _, rfl, ⟨WdOk.nil, WdOk.nil, Nat.le_refl _, Nat.le_refl _, Twins.nil⟩, hS⟩
  case round =>
    clear hS
    rename World => wz
    obtain ⟨j, la, lb, hj, rfl, h2, hS⟩ := hrel
    have H2 := Lib.hid h2
    clear h2
    by_cases hjl : j < L.length
    · have hjlb : decide ((j : Int) < L.length) = true := by simp; omega
      obtain ⟨x, hx⟩ : ∃ x, L[j]? = some x := ⟨_, List.getElem?_eq_getElem hjl⟩
      have HXo := Lib.hid (HL.out.ok x (List.mem_of_getElem? hx))
      have ix := HL.out.ix hjl c1
      have cX := (HL.out.move HW.out).move (hS.below.mono HW.out.size)
      have k0 : wz.cell? ⟨g1, o1 + j * 5, none⟩ = some (.int .i64 x.R) := cX.c j x hx 0 _ rfl
      have k1 : wz.cell? ⟨g1, o1 + j * 5 + 1, none⟩ = some (.int .i64 x.T) := cX.c j x hx 1 _ rfl
      have k2 : wz.cell? ⟨g1, o1 + j * 5 + 2, none⟩ = some (.string x.key) := cX.c j x hx 2 _ rfl
      have k3 : wz.cell? ⟨g1, o1 + j * 5 + 3, none⟩ = some (.bool x.off) := cX.c j x hx 3 _ rfl
      have k4 : wz.cell? ⟨g1, o1 + j * 5 + 4, none⟩ = some (.int .i64 x.n) := cX.c j x hx 4 _ rfl
      have hsz := HXo.out.key
      unfold KSz at hsz
      clear hx cX
      by_cases h60 : 60 < x.key.size
      · have h60b : decide ((60 : Int) < x.key.size) = true := by simp; omega
        go_wp2_with go_skip
        go_ret
        exact ⟨rfl, HW.out.trans (hS.below.mono HW.out.size)⟩
      · have h60b : decide ((60 : Int) < x.key.size) = false := by simp; omega
        have h60c : x.key.size ≤ 60 := by omega
        have HXp := Lib.hid (pre_ok (b := 108) HXo.out h60c)
        go_upto_region 11 with go_skip
        have q0 := cell_regrown k0
        have q1 := cell_regrown k1
        have q2 := cell_regrown k2
        have q3 := cell_regrown k3
        have q4 := cell_regrown k4
        clear k0 k1 k2 k3 k4
        refine wp_region_cbox apart11 (by kernel_rfl) 27 (by kernel_rfl) (by kernel_rfl) (by kernel_rfl) (by decide) (by kernel_rfl) (by kernel_rfl) (by kernel_rfl) (by kernel_rfl) 36 71 8 (of_decide_eq_true (by kernel_rfl)) (of_decide_eq_true (by kernel_rfl)) (by decide) (by kernel_rfl) (by kernel_rfl) (by kernel_rfl) zeroO.c (by kernel_rfl) (by kernel_rfl) (fun cs => cs = (preW 108 x).op.o.c) (fun cs h => by subst h; exact ⟨(OpV.size (o := zeroO) rfl).trans (OpV.size (word_seen (preW 108 x))).symm, ot_one (word_vc (preW 108 x))⟩) ?_
        simp only [List.take_succ_cons, List.take_zero]
        repeat (first | go_big_quiet_skip | ((with_reducible refine gate_q (op := .build 39 #[(0, .tmp 48), (1, .tmp 53), (2, .tmp 59), (3, .tmp 64), (4, .tmp 69)]) rfl ?_); refine BigFrame.wpQuiet_want rfl (fun K hK => ?_); refine quiet_word 108 x 48 53 59 64 69 rfl rfl rfl rfl rfl rfl ?_; refine hK _ ?_; clear hK K) | (quiet_step (fail)) | (go_big_quiet_want; go_big_quiet_op; go_big_quiet_on))
        refine wpQuiet_nil ?_
        intro o ho
        simp only [List.getElem?_toArray, List.getElem?_cons_succ, List.getElem?_cons_zero, Option.some.injEq] at ho
        subst ho
        refine ⟨fun W hW => ?_, ?_⟩
        · exact gives_call_ex #[.tmp 70] #[39] rfl (f := 10) Tryz.func10 (by kernel_rfl) rfl #[.agg (preW 108 x).c] (one_arg rfl) ((wOp_any (preW 108 x) W).mono fun e w' ⟨he, hb⟩ => ⟨_, he, hb, _, rfl, rfl⟩)
        intro cs bo W hcs hW hbo hW8
        subst hcs
        simp only [List.drop_succ_cons, List.drop_zero, Act.put, List.setIfInBounds_toArray, List.set_cons_zero, List.set_cons_succ]
        have hS1 := hS.newer hW hbo hW8
        simp only [List.cons_append, List.nil_append] at hS1
        clear hS hW hbo hW8 q0 q1 q2 q3 q4
        have hS := hS1
        clear hS1
        go_wp2_with (first | go_skip | ((with_reducible refine gate_op (op := .load 36 (.tmp 8)) rfl ?_); refine wpList_load_row' rfl 36 (.tmp 8) rfl _ rfl 36 _ (0, 0) _ (hS.at_ 4 rfl) Tryz.underlying36 rfl (op_info _ (word_seen (preW 108 x))) ?_) | (go_at_call 9; have q0 := hS.at_ 0 rfl; have q1 := hS.at_ (0 + 1) rfl; (with_reducible (refine (apply_word (preW 108 x) la pa ba _ (HV.out.step (HW.out.trans (hS.below.mono HW.out.size))) HXp.out H2.out.oa q1 q0).mono ?_)); clear q0 q1; rintro e wn ⟨r, la2, rfl, hz, hgn, hbut⟩; have HZA := Lib.hid hz; have hS1 := hS.turn 0 rfl hbut hgn; clear hS hgn hbut hz; simp only [List.set_cons_zero, List.set_cons_succ] at hS1; have hS := hS1; clear hS1) | (go_at_call 9; have q0 := hS.at_ 2 rfl; have q1 := hS.at_ (2 + 1) rfl; (with_reducible (refine (apply_word (preW 108 x) lb p b _ (HV.out.step (HW.out.trans (hS.below.mono HW.out.size))) HXp.out H2.out.ob q1 q0).mono ?_)); clear q0 q1; rintro e wn ⟨r, lb2, rfl, hz, hgn, hbut⟩; have HZB := Lib.hid hz; have hS1 := hS.turn 2 rfl hbut hgn; clear hS hgn hbut hz; simp only [List.set_cons_zero, List.set_cons_succ] at hS1; have hS := hS1; clear hS1))
        go_roundw
        case rel => exact ⟨j + 1, la2, lb2, by omega, by go_num, ⟨HZA.out.2.1, HZB.out.2.1, by have := HZA.out.2.2; have := H2.out.na; omega, by have := HZB.out.2.2; have := H2.out.nb; omega, H2.out.tw.both (hd_pre 108 x) HZA.out.1 HZB.out.1⟩, hS.drop (n := 4)⟩
        case measure => first | (simp [intOf]; done) | (simp [intOf]; omega)
    · have hjlb : decide ((j : Int) < L.length) = false := by simp; omega
      obtain rfl : j = L.length := by omega
      have HT := Lib.hid (show WdOk la ∧ WdOk lb ∧ la.length ≤ 20 ∧ lb.length ≤ 20 ∧ Twins la lb from ⟨H2.out.oa, H2.out.ob, by have := H2.out.na; omega, by have := H2.out.nb; omega, H2.out.tw⟩)
      clear H2
      go_wp2_with go_skip
      go_loopw [9] (fun iv wz => ∃ (j : Nat) (lb : Wd), j ≤ M.length ∧ iv = .int .i64 (j : Int) ∧ (WdOk lb ∧ lb.length ≤ 20 + j ∧ Twins la lb) ∧ Boxes wr wz [(ba, wordsO la), (pa, headO ba), (b, wordsO lb), (p, headO b)]) (fun iv _ => M.length - (intOf iv).toNat)
      case atStart => exact ⟨0, lb, Nat.zero_le _, rfl, ⟨HT.out.2.1, HT.out.2.2.2.1, HT.out.2.2.2.2⟩, hS⟩
      case round =>
        clear hS
        have HA := Lib.hid (And.intro HT.out.1 HT.out.2.2.1)
        clear HT
        rename World => wz
        obtain ⟨j, lb, hj, rfl, hlb, hS⟩ := hrel
        have HB := Lib.hid hlb
        clear hlb
        by_cases hjm : j < M.length
        · have hjmb : decide ((j : Int) < M.length) = true := by simp; omega
          obtain ⟨x, hx⟩ : ∃ x, M[j]? = some x := ⟨_, List.getElem?_eq_getElem hjm⟩
          have HXo := Lib.hid (HM.out.ok x (List.mem_of_getElem? hx))
          have ix := HM.out.ix hjm c2
          have cX := (HM.out.move HW.out).move (hS.below.mono HW.out.size)
          have k0 : wz.cell? ⟨g2, o2 + j * 5, none⟩ = some (.int .i64 x.R) := cX.c j x hx 0 _ rfl
          have k1 : wz.cell? ⟨g2, o2 + j * 5 + 1, none⟩ = some (.int .i64 x.T) := cX.c j x hx 1 _ rfl
          have k2 : wz.cell? ⟨g2, o2 + j * 5 + 2, none⟩ = some (.string x.key) := cX.c j x hx 2 _ rfl
          have k3 : wz.cell? ⟨g2, o2 + j * 5 + 3, none⟩ = some (.bool x.off) := cX.c j x hx 3 _ rfl
          have k4 : wz.cell? ⟨g2, o2 + j * 5 + 4, none⟩ = some (.int .i64 x.n) := cX.c j x hx 4 _ rfl
          have hsz := HXo.out.key
          unfold KSz at hsz
          clear hx cX
          by_cases h60 : 60 < x.key.size
          · have h60b : decide ((60 : Int) < x.key.size) = true := by simp; omega
            go_wp2_with go_skip
            go_ret
            exact ⟨rfl, HW.out.trans (hS.below.mono HW.out.size)⟩
          · have h60b : decide ((60 : Int) < x.key.size) = false := by simp; omega
            have h60c : x.key.size ≤ 60 := by omega
            have HXp := Lib.hid (pre_ok (b := 109) HXo.out h60c)
            go_upto_region 19 with go_skip
            have q0 := cell_regrown k0
            have q1 := cell_regrown k1
            have q2 := cell_regrown k2
            have q3 := cell_regrown k3
            have q4 := cell_regrown k4
            clear k0 k1 k2 k3 k4
            refine wp_region_one apart19 (by kernel_rfl) 28 (by kernel_rfl) (by kernel_rfl) (by kernel_rfl) (by decide) (by kernel_rfl) (by kernel_rfl) (fun v _ => v = opv (preW 109 x).op.o) ?_
            simp only [List.take_succ_cons, List.take_zero]
            repeat (first | go_big_quiet_skip | ((with_reducible refine gate_q (op := .build 39 #[(0, .tmp 96), (1, .tmp 101), (2, .tmp 107), (3, .tmp 112), (4, .tmp 117)]) rfl ?_); refine BigFrame.wpQuiet_want rfl (fun K hK => ?_); refine quiet_word 109 x 96 101 107 112 117 rfl rfl rfl rfl rfl rfl ?_; refine hK _ ?_; clear hK K) | (quiet_step (fail)) | (go_big_quiet_want; go_big_quiet_op; go_big_quiet_on))
            refine wpQuiet_nil ?_
            intro o ho
            simp only [List.getElem?_toArray, List.getElem?_cons_succ, List.getElem?_cons_zero, Option.some.injEq] at ho
            subst ho
            refine ⟨rfl, fun W hW => ?_, ?_⟩
            · exact gives_call_ex #[.tmp 118] #[39] rfl (f := 10) Tryz.func10 (by kernel_rfl) rfl #[.agg (preW 109 x).c] (one_arg rfl) ((wOp_any (preW 109 x) W).mono fun e w' ⟨he, hb⟩ => ⟨_, he, hW.trans (hb.mono hW.size), rfl⟩)
            intro v W hW hv
            subst hv
            simp only [List.drop_succ_cons, List.drop_zero, Act.put, List.setIfInBounds_toArray, List.set_cons_zero, List.set_cons_succ]
            have hS1 := hS.step hW
            clear hS hW q0 q1 q2 q3 q4
            have hS := hS1
            clear hS1
            go_wp2_with (first | go_skip | (go_at_call 9; have q0 := hS.at_ 2 rfl; have q1 := hS.at_ (2 + 1) rfl; (with_reducible (refine (apply_word (preW 109 x) lb p b _ (HV.out.step (HW.out.trans (hS.below.mono HW.out.size))) HXp.out HB.out.1 q1 q0).mono ?_)); clear q0 q1; rintro e wn ⟨r, lb2, rfl, hz, hgn, hbut⟩; have HZB := Lib.hid hz; have hS1 := hS.turn 2 rfl hbut hgn; clear hS hgn hbut hz; simp only [List.set_cons_zero, List.set_cons_succ] at hS1; have hS := hS1; clear hS1))
            go_roundw
            case rel => exact ⟨j + 1, lb2, by omega, by go_num, ⟨HZB.out.2.1, by have := HZB.out.2.2; have := HB.out.2.1; omega, HB.out.2.2.one (hd_pre 109 x) HZB.out.1⟩, hS⟩
            case measure => first | (simp [intOf]; done) | (simp [intOf]; omega)
        · have hjmb : decide ((j : Int) < M.length) = false := by simp; omega
          have HC := Lib.hid (show WdOk lb ∧ lb.length ≤ 40 ∧ Twins la lb from ⟨HB.out.1, by have := HB.out.2.1; omega, HB.out.2.2⟩)
          clear HB
          go_wp2_with (first | go_skip | (go_at_call 13; have q0 := hS.at_ 0 rfl; have q1 := hS.at_ (0 + 1) rfl; (with_reducible (refine (lKeys_sl la pa ba _ HA.out.1 HA.out.2 q1 q0).mono ?_)); clear q0 q1; rintro e wn ⟨A, g, c, rfl, hs, hbn⟩; have HKc := Lib.hid hs; clear hs; have hS1 := hS.step hbn; clear hS hbn; have hS := hS1; clear hS1))
          rename World => w6
          rename_i A g c _ _
          have HS6 := Lib.hid hS
          clear hS
          go_loopw [11] (fun iv wz => ∃ j : Nat, j ≤ (keysW la).length ∧ iv = .int .i64 (j : Int) ∧ Below w6.heap.size w6 wz) (fun iv _ => (keysW la).length - (intOf iv).toNat)
          case atStart => exact ⟨0, Nat.zero_le _, rfl, Below.refl _ _⟩
          case round =>
            rename World => wz
            obtain ⟨j, hj, rfl, hbz⟩ := hrel
            have HBZ := Lib.hid hbz
            clear hbz
            have hkl := keysW_len la HA.out.2
            by_cases hjl : j < (keysW la).length
            · have hjlb : decide ((j : Int) < (keysW la).length) = true := by simp; omega
              obtain ⟨s, hs⟩ : ∃ s, (keysW la)[j]? = some s := ⟨_, List.getElem?_eq_getElem hjl⟩
              obtain ⟨y, hy⟩ := keysW_get (List.mem_of_getElem? hs)
              obtain ⟨y', hy', hyy⟩ : ∃ y', getW lb (kb s) = some y' ∧ OT.Same y y' := by
                obtain ⟨q1, q2⟩ := same_get hy
                rcases HC.out.2.2.same (kb s) (HC.out.2.2.ones _ _ q1) with ⟨h1, _⟩ | ⟨u, v, h1, h2, h3⟩
                · rw [h1] at q1; cases q1
                · rw [h1] at q1
                  obtain rfl := Option.some.inj q1
                  exact ⟨v, by unfold getW; rw [h2]; simp [← h3.K, q2], h3⟩
              have hks : KSz (kb s) := HA.out.1.keys.all _ (assoc_mem (same_get hy).1)
              obtain ⟨hAn, hg⟩ := HKc.out.a (by omega)
              subst hAn
              have HKK := Lib.hid (fun W (hb : Below w6.heap.size w6 W) => (hb.cell (p := ⟨g, j, none⟩) hg).trans (HKc.out.c j s hs))
              have HY := Lib.hid hy
              have HY' := Lib.hid hy'
              have HYY := Lib.hid hyy
              have kj : wz.cell? ⟨g, j, none⟩ = some (.string (kb s)) := HKK.out _ HBZ.out
              have hS := Boxes.start wz
              clear hs hy hy' hyy hg
              have P0 := Lib.hid (fun W (hb : Below w6.heap.size w6 W) => (hb.block _ (HS6.out.lt 0 rfl)).trans (HS6.out.at_ 0 rfl))
              have P1 := Lib.hid (fun W (hb : Below w6.heap.size w6 W) => (hb.block _ (HS6.out.lt 1 rfl)).trans (HS6.out.at_ 1 rfl))
              have P2 := Lib.hid (fun W (hb : Below w6.heap.size w6 W) => (hb.block _ (HS6.out.lt 2 rfl)).trans (HS6.out.at_ 2 rfl))
              have P3 := Lib.hid (fun W (hb : Below w6.heap.size w6 W) => (hb.block _ (HS6.out.lt 3 rfl)).trans (HS6.out.at_ 3 rfl))
              go_upto_region 25 with (first | go_skip | (go_at_call 11; (with_reducible (refine (get_is HY.out hks HA.out.1 (P1.out _ (HBZ.out.trans (hS.below.mono HBZ.out.size))) (P0.out _ (HBZ.out.trans (hS.below.mono HBZ.out.size)))).mono ?_)); rintro e wn ⟨z1, rfl, hz, hsz, hbn⟩; have HZ1 := Lib.hid (And.intro hz hsz); have z1s := hz.seen; clear hz hsz; have hS1 := hS.step hbn; clear hS hbn; have hS := hS1; clear hS1) | ((with_reducible refine gate_op (op := .alloc 36) rfl ?_); refine alloc_arm rfl 36 rfl (op_alloc _) ?_; intro wn hbn hgn; have hS1 := hS.new hbn hgn; (try simp only [List.nil_append, List.cons_append, List.set_cons_zero, List.set_cons_succ] at hS1); clear hS hbn hgn; have hS := hS1; clear hS1) | ((with_reducible refine gate_op (op := .store 36 (.tmp 12) (.tmp 136)) rfl ?_); refine wpList_store_row rfl 36 (.tmp 12) (.tmp 136) rfl _ z1.o.c rfl rfl 36 _ (hS.at_ 0 rfl) (op_info _ z1s) ((OpV.size (o := zeroO) rfl).trans (OpV.size (o := z1.o) z1s).symm) (ot_one HZ1.out.1.vc) ?_; intro wn hbn hgn hon hsn; have hS1 := hS.put 0 rfl hon hbn hgn; (try simp only [List.nil_append, List.cons_append, List.set_cons_zero, List.set_cons_succ] at hS1); clear hS hbn hgn hon hsn; have hS := hS1; clear hS1))
              go_upto_region 26 with (first | ((with_reducible refine gate_op (op := .load 9 (.tmp 142)) rfl ?_); refine load_one rfl 9 (.tmp 142) rfl g j rfl (.string (kb s)) _ (HKK.out _ (HBZ.out.trans (hS.below.mono HBZ.out.size))) Tryz.underlying9 rfl ?_) | go_skip | (go_at_call 11; (with_reducible (refine (get_is HY'.out hks HC.out.1 (P3.out _ (HBZ.out.trans (hS.below.mono HBZ.out.size))) (P2.out _ (HBZ.out.trans (hS.below.mono HBZ.out.size)))).mono ?_)); rintro e wn ⟨z2, rfl, hz, hsz, hbn⟩; have HZ2 := Lib.hid (And.intro hz hsz); have z2s := hz.seen; clear hz hsz; have hS1 := hS.step hbn; clear hS hbn; have hS := hS1; clear hS1) | ((with_reducible refine gate_op (op := .alloc 36) rfl ?_); refine alloc_arm rfl 36 rfl (op_alloc _) ?_; intro wn hbn hgn; have hS1 := hS.new hbn hgn; (try simp only [List.nil_append, List.cons_append, List.set_cons_zero, List.set_cons_succ] at hS1); clear hS hbn hgn; have hS := hS1; clear hS1) | ((with_reducible refine gate_op (op := .store 36 (.tmp 14) (.tmp 145)) rfl ?_); refine wpList_store_row rfl 36 (.tmp 14) (.tmp 145) rfl _ z2.o.c rfl rfl 36 _ (hS.at_ 1 rfl) (op_info _ z2s) ((OpV.size (o := zeroO) rfl).trans (OpV.size (o := z2.o) z2s).symm) (ot_one HZ2.out.1.vc) ?_; intro wn hbn hgn hon hsn; have hS1 := hS.put 1 rfl hon hbn hgn; (try simp only [List.nil_append, List.cons_append, List.set_cons_zero, List.set_cons_succ] at hS1); clear hS hbn hgn hon hsn; have hS := hS1; clear hS1))
              go_wp2_with (first | go_skip | ((with_reducible refine gate_op (op := .load 36 (.tmp 12)) rfl ?_); refine wpList_load_row' rfl 36 (.tmp 12) rfl _ rfl 36 _ (0, 0) _ (hS.at_ 0 rfl) Tryz.underlying36 rfl (op_info _ z1s) ?_) | ((with_reducible refine gate_op (op := .load 36 (.tmp 14)) rfl ?_); refine wpList_load_row' rfl 36 (.tmp 14) rfl _ rfl 36 _ (0, 0) _ (hS.at_ 1 rfl) Tryz.underlying36 rfl (op_info _ z2s) ?_) | (go_at_call 17; (with_reducible (refine (same_is HZ1.out.1 HZ2.out.1 (HZ1.out.2.symm.trans (HYY.out.trans HZ2.out.2)) _).mono ?_)); rintro e wn ⟨rfl, hbn⟩; have hS1 := hS.step hbn; clear hS hbn; have hS := hS1; clear hS1))
              go_roundw
              case rel => exact ⟨j + 1, by omega, by go_num, HBZ.out.trans (hS.below.mono HBZ.out.size)⟩
              case measure => first | (simp [intOf]; done) | (simp [intOf]; omega)
            · have hjlb : decide ((j : Int) < (keysW la).length) = false := by simp; omega
              obtain rfl : j = (keysW la).length := by omega
              have hS := HS6.out.step HBZ.out
              have hcnt := twins_count HC.out.2.2 HA.out.1.keys.nodup HC.out.1.keys.nodup
              clear HBZ HS6 HKc
              go_wp2_with (first | go_skip | (go_at_call 13; have q0 := hS.at_ 2 rfl; have q1 := hS.at_ (2 + 1) rfl; (with_reducible (refine (lKeys_sl lb p b _ HC.out.1 HC.out.2.1 q1 q0).mono ?_)); clear q0 q1; rintro e wn ⟨A, g, c, rfl, hs, hbn⟩; have HKd := Lib.hid hs; clear hs; have hS1 := hS.step hbn; clear hS hbn; have hS := hS1; clear hS1))
              rename World => w7
              have HS7 := Lib.hid hS
              clear hS
              have hkm := keysW_len lb HC.out.2.1
              go_loopw [16, 18] (fun nv iv wz => ∃ j : Nat, j ≤ (keysW lb).length ∧ iv = .int .i64 (j : Int) ∧ nv = .int .i64 ((((keysW lb).take j).filter isL).length : Nat) ∧ Below w7.heap.size w7 wz) (fun _ iv _ => (keysW lb).length - (intOf iv).toNat)
              case atStart => exact ⟨0, Nat.zero_le _, rfl, rfl, Below.refl _ _⟩
              case round =>
                rename World => wz
                obtain ⟨j, hj, rfl, rfl, hbz⟩ := hrel
                have HBZ := Lib.hid hbz
                clear hbz
                by_cases hjl : j < (keysW lb).length
                · have hjlb : decide ((j : Int) < (keysW lb).length) = true := by simp; omega
                  obtain ⟨s, hs⟩ : ∃ s, (keysW lb)[j]? = some s := ⟨_, List.getElem?_eq_getElem hjl⟩
                  have hne : s ≠ [] := by
                    obtain ⟨y, hy, _⟩ := keysW_mem.1 (List.mem_of_getElem? hs)
                    rintro rfl
                    rcases HC.out.2.2.twos _ _ hy with h | h <;> simp [hd, kb] at h
                  have htake : (((keysW lb).take (j + 1)).filter isL).length = (((keysW lb).take j).filter isL).length + (if isL s then 1 else 0) := by
                    rw [List.take_add_one, hs, List.filter_append, List.length_append]
                    cases h : isL s <;> simp [h]
                  have hfl : (((keysW lb).take j).filter isL).length ≤ 1000000 := Nat.le_trans (List.length_filter_le _ _) (by rw [List.length_take]; omega)
                  obtain ⟨hAn, hg⟩ := HKd.out.a (by omega)
                  subst hAn
                  have kj : wz.cell? ⟨g, j, none⟩ = some (.string (kb s)) := (HBZ.out.cell (p := ⟨g, j, none⟩) hg).trans (HKd.out.c j s hs)
                  clear hs hg
                  cases hl : isL s with
                  | true =>
                    have hl3 : (headB8 s == 108) = true := (isL_head s hne).symm.trans hl
                    have hl2 : decide (headB8 s = 108) = true := by simpa using hl3
                    rw [hl] at htake
                    go_wp2_with (first | ((with_reducible refine gate_op (op := .index 9 (.tmp 166) (.const (.int .i64 0))) rfl ?_); refine index_arm rfl 9 (.tmp 166) (.const (.int .i64 0)) rfl _ _ rfl rfl _ (idx_head s hne _) ?_) | go_skip)
                    go_roundw
                    case rel => exact ⟨j + 1, by omega, by go_num, by rw [htake]; go_num, HBZ.out⟩
                    case measure => first | (simp [intOf]; done) | (simp [intOf]; omega)
                  | false =>
                    have hl3 : (headB8 s == 108) = false := (isL_head s hne).symm.trans hl
                    have hl2 : decide (headB8 s = 108) = false := by simpa using hl3
                    rw [hl] at htake
                    go_wp2_with (first | ((with_reducible refine gate_op (op := .index 9 (.tmp 166) (.const (.int .i64 0))) rfl ?_); refine index_arm rfl 9 (.tmp 166) (.const (.int .i64 0)) rfl _ _ rfl rfl _ (idx_head s hne _) ?_) | go_skip)
                    go_roundw
                    case rel => exact ⟨j + 1, by omega, by go_num, by rw [htake]; go_num, HBZ.out⟩
                    case measure => first | (simp [intOf]; done) | (simp [intOf]; omega)
                · have hjlb : decide ((j : Int) < (keysW lb).length) = false := by simp; omega
                  obtain rfl : j = (keysW lb).length := by omega
                  rw [List.take_length, hcnt]
                  go_wp2_with go_skip
                  go_ret
                  exact ⟨by simp, HW.out.trans ((HS7.out.below.mono HW.out.size).trans (HBZ.out.mono (Nat.le_trans HW.out.size HS7.out.below.size)))⟩
set_option maxRecDepth 100000 in
set_option maxHeartbeats 1000000 in
omit hL hM in
theorem apart_long (h : 20 < L.length ∨ 20 < M.length) : Calls Tryz.prog 6 #[.slice A1 L.length c1, .slice A2 M.length c2] w fun e w' => e = .returned (.bool true) ∧ Below w.heap.size w w' := by
  have HV := Lib.hid hw
  have hS := Boxes.start w
  clear hw
  by_cases h20 : 20 < L.length
  · have d1 : decide ((20 : Int) < L.length) = true := by simp; omega
    clear h
    go_enter Tryz.func6, Tryz.ntmps6
    go_wp2_with (first | go_skip | (go_at_call 7; (with_reducible (refine (awake22_any _ (HV.out.step hS.below)).mono ?_)); rintro e wn ⟨rfl, hbn⟩; have hS1 := hS.step hbn; clear hS hbn; have hS := hS1; clear hS1))
    go_ret
    exact ⟨rfl, hS.below⟩
  · have d1 : decide ((20 : Int) < L.length) = false := by simp; omega
    have d2 : decide ((20 : Int) < M.length) = true := by simp; omega
    clear h
    go_enter Tryz.func6, Tryz.ntmps6
    go_wp2_with (first | go_skip | (go_at_call 7; (with_reducible (refine (awake22_any _ (HV.out.step hS.below)).mono ?_)); rintro e wn ⟨rfl, hbn⟩; have hS1 := hS.step hbn; clear hS hbn; have hS := hS1; clear hS1))
    go_ret
    exact ⟨rfl, hS.below⟩
theorem lwwKeysApart_walk : Calls Tryz.prog 6 #[.slice A1 L.length c1, .slice A2 M.length c2] w fun e w' => e = .returned (.bool true) ∧ Below w.heap.size w w' := by
  by_cases h : 20 < L.length ∨ 20 < M.length
  · exact apart_long A1 c1 L A2 c2 M w hw h
  · exact apart_go A1 g1 o1 c1 L A2 g2 o2 c2 M w hw hL hM (by omega) (by omega)
end
end Go.Proofs.YteplcnpmdjdlkaaGreatDoor
