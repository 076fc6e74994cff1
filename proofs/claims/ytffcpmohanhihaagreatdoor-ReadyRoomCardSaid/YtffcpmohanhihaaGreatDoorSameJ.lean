/-
  value.same tells what is written here, for all trees. Condition: what the function for numbers tells is known.
-/
import Derived.Test.YtffcpmohanhihaaGreatDoorJ12
namespace Go.Proofs.YtffcpmohanhihaaGreatDoor
open Go.RowKit
set_option linter.unusedVariables false
set_option linter.unusedSimpArgs false
set_option linter.unusedSectionVars false
section
variable (num : ByteArray → ByteArray → Bool) (f : FuncId) (fn : Func) (hf : Tryz.prog.funcs[f]? = some fn) (hname : (fn.name == "runtime.NumGoroutine") = false) (hbody : fn.body.isSome = true) (C : World → Prop) (hC : ∀ W W', C W → Below W.heap.size W W' → C W')
  (hnum : ∀ x y W, C W → x.size ≤ 9223372036854775807 → y.size ≤ 9223372036854775807 → Calls Tryz.prog f #[.string x, .string y] W fun e w' => e = .returned (.bool (num x y)) ∧ Below W.heap.size W w')
/-- What is to be shown of a tree. -/
def SameOk (a : VT) : Prop := ∀ (b : VT) (w : World), C w → VT.In w.heap.size w a → VT.In w.heap.size w b → Calls Tryz.prog 128 #[.agg a.c, .agg b.c, .func (.func f) #[] #[]] w fun e w' => e = .returned (.bool (sameB num a b)) ∧ Below w.heap.size w w'
include hf hname hbody hC hnum
theorem same_no (a b : VT) (w : World) (h : (a.k == b.k && a.n == b.n && a.ln == b.ln && a.mn == b.mn) = false) : Calls Tryz.prog 128 #[.agg a.c, .agg b.c, .func (.func f) #[] #[]] w fun e w' => e = .returned (.bool (sameB num a b)) ∧ Below w.heap.size w w' := by
  have hh : Hid (sameB num a b = false) := by unfold Hid; rw [sameB_eq, h]; simp
  have a0 : a.c[0]? = some (.int .i64 a.k) := rfl
  have a1 : a.c[1]? = some (.int .i64 a.n) := rfl
  have a2 : a.c[2]? = some (.string a.s) := rfl
  have a3 : a.c[3]? = some (.slice a.lA a.ln a.lc) := rfl
  have a4 : a.c[4]? = some (.slice a.mA a.mn a.mc) := rfl
  have b0 : b.c[0]? = some (.int .i64 b.k) := rfl
  have b1 : b.c[1]? = some (.int .i64 b.n) := rfl
  have b2 : b.c[2]? = some (.string b.s) := rfl
  have b3 : b.c[3]? = some (.slice b.lA b.ln b.lc) := rfl
  have b4 : b.c[4]? = some (.slice b.mA b.mn b.mc) := rfl
  cases h0 : (a.k == b.k)
  · have h0b : (a.k != b.k) = true := by rw [bne, h0]; rfl
    clear h
    go_enter Tryz.func128, Tryz.ntmps128
    go_wp2_with fail
    go_ret
    exact ⟨ret_bool hh.out.symm, ((Below.refl _ _).alloc (Nat.le_refl _) _).alloc (by simp) _⟩
  have h0b : (a.k != b.k) = false := by rw [bne, h0]; rfl
  cases h1 : (a.n == b.n)
  · have h1b : (a.n != b.n) = true := by rw [bne, h1]; rfl
    clear h
    go_enter Tryz.func128, Tryz.ntmps128
    go_wp2_with fail
    go_ret
    exact ⟨ret_bool hh.out.symm, ((Below.refl _ _).alloc (Nat.le_refl _) _).alloc (by simp) _⟩
  have h1b : (a.n != b.n) = false := by rw [bne, h1]; rfl
  cases h2 : (a.ln == b.ln)
  · have h2b : ((a.ln : Int) != b.ln) = true := by have : a.ln ≠ b.ln := (by simpa using h2); simp; omega
    clear h
    go_enter Tryz.func128, Tryz.ntmps128
    go_wp2_with fail
    go_ret
    exact ⟨ret_bool hh.out.symm, ((Below.refl _ _).alloc (Nat.le_refl _) _).alloc (by simp) _⟩
  have h2b : ((a.ln : Int) != b.ln) = false := by have : a.ln = b.ln := (by simpa using h2); simp [this]
  cases h3 : (a.mn == b.mn)
  · have h3b : ((a.mn : Int) != b.mn) = true := by have : a.mn ≠ b.mn := (by simpa using h3); simp; omega
    clear h
    go_enter Tryz.func128, Tryz.ntmps128
    go_wp2_with fail
    go_ret
    exact ⟨ret_bool hh.out.symm, ((Below.refl _ _).alloc (Nat.le_refl _) _).alloc (by simp) _⟩
  · exfalso; simp_all
set_option maxRecDepth 100000 in
theorem same_txt (a b : VT) (w : World) (hw : C w) (ha : VT.In w.heap.size w a) (hb : VT.In w.heap.size w b) (h : (a.k == b.k && a.n == b.n && a.ln == b.ln && a.mn == b.mn) = true) (hs : (a.s.toList == b.s.toList) = false) (hq : (a.k == 3 && num a.s b.s) = false) :
    Calls Tryz.prog 128 #[.agg a.c, .agg b.c, .func (.func f) #[] #[]] w fun e w' => e = .returned (.bool (sameB num a b)) ∧ Below w.heap.size w w' := by
  have hh : Hid (sameB num a b = false) := by unfold Hid; rw [sameB_eq, h, hs, hq]; simp
  have a0 : a.c[0]? = some (.int .i64 a.k) := rfl
  have a1 : a.c[1]? = some (.int .i64 a.n) := rfl
  have a2 : a.c[2]? = some (.string a.s) := rfl
  have a3 : a.c[3]? = some (.slice a.lA a.ln a.lc) := rfl
  have a4 : a.c[4]? = some (.slice a.mA a.mn a.mc) := rfl
  have b0 : b.c[0]? = some (.int .i64 b.k) := rfl
  have b1 : b.c[1]? = some (.int .i64 b.n) := rfl
  have b2 : b.c[2]? = some (.string b.s) := rfl
  have b3 : b.c[3]? = some (.slice b.lA b.ln b.lc) := rfl
  have b4 : b.c[4]? = some (.slice b.mA b.mn b.mc) := rfl
  simp only [Bool.and_eq_true] at h
  obtain ⟨⟨⟨q0, q1⟩, q2⟩, q3⟩ := h
  have h0b : (a.k != b.k) = false := by rw [bne, q0]; rfl
  have h1b : (a.n != b.n) = false := by rw [bne, q1]; rfl
  have h2b : ((a.ln : Int) != b.ln) = false := by have : a.ln = b.ln := (by simpa using q2); simp [this]
  have h3b : ((a.mn : Int) != b.mn) = false := by have : a.mn = b.mn := (by simpa using q3); simp [this]
  have hsb : (a.s.toList != b.s.toList) = true := by rw [bne, hs]; rfl
  have HN := Lib.hid (fun W (hB : Below w.heap.size w W) => hnum a.s b.s W (hC _ _ hw hB) ha.here.sl hb.here.sl)
  cases h5 : (a.k == 3)
  · clear hq
    go_enter Tryz.func128, Tryz.ntmps128
    go_wp2_with fail
    go_ret
    exact ⟨ret_bool hh.out.symm, ((Below.refl _ _).alloc (Nat.le_refl _) _).alloc (by simp) _⟩
  · have h6 : num a.s b.s = false := by simpa [h5] using hq
    have HN := HN.out
    rw [h6] at HN
    have HN := Lib.hid HN
    clear hq
    go_enter Tryz.func128, Tryz.ntmps128
    go_wp2_with (first | go_skip | (refine call_fn rfl (.tmp 49) #[.tmp 51, .tmp 53] #[9, 9] rfl rfl hf hname hbody #[.string a.s, .string b.s] (by simp only [List.map_toArray, List.map_cons, List.map_nil]; rfl) ?_; (with_reducible (refine (HN.out _ (((Below.refl _ _).alloc (Nat.le_refl _) _).alloc (by simp) _)).mono ?_)); rintro e w1 ⟨rfl, hb1⟩; refine ⟨_, rfl, ?_⟩))
    go_ret
    exact ⟨ret_bool hh.out.symm, below_then (((Below.refl _ _).alloc (Nat.le_refl _) _).alloc (by simp) _) (by simp; omega) hb1⟩
set_option maxRecDepth 100000 in
set_option maxHeartbeats 4000000 in
theorem same_go (a b : VT) (w : World) (hw : C w) (ha : VT.In w.heap.size w a) (hb : VT.In w.heap.size w b) (ihl : ∀ i, i < a.ln → SameOk num f C (a.lt i)) (ihm : ∀ i, i < a.mn → SameOk num f C (a.mt i))
    (h : (a.k == b.k && a.n == b.n && a.ln == b.ln && a.mn == b.mn) = true) (hs : (a.s.toList == b.s.toList) = true) :
    Calls Tryz.prog 128 #[.agg a.c, .agg b.c, .func (.func f) #[] #[]] w fun e w' => e = .returned (.bool (sameB num a b)) ∧ Below w.heap.size w w' := by
  have hh : Hid (sameB num a b = (allTo (fun i => sameB num (a.lt i) (b.lt i)) a.ln && allTo (fun i => (a.key i).toList == (b.key i).toList && sameB num (a.mt i) (b.mt i)) a.mn)) := by unfold Hid; rw [sameB_eq, h, hs]; simp
  have HA := ha.here
  have HB := hb.here
  have hll := HA.ll
  have hml := HA.ml
  have a0 : a.c[0]? = some (.int .i64 a.k) := rfl
  have a1 : a.c[1]? = some (.int .i64 a.n) := rfl
  have a2 : a.c[2]? = some (.string a.s) := rfl
  have a3 : a.c[3]? = some (.slice a.lA a.ln a.lc) := rfl
  have a4 : a.c[4]? = some (.slice a.mA a.mn a.mc) := rfl
  have b0 : b.c[0]? = some (.int .i64 b.k) := rfl
  have b1 : b.c[1]? = some (.int .i64 b.n) := rfl
  have b2 : b.c[2]? = some (.string b.s) := rfl
  have b3 : b.c[3]? = some (.slice b.lA b.ln b.lc) := rfl
  have b4 : b.c[4]? = some (.slice b.mA b.mn b.mc) := rfl
  simp only [Bool.and_eq_true] at h
  obtain ⟨⟨⟨q0, q1⟩, q2⟩, q3⟩ := h
  have h0b : (a.k != b.k) = false := by rw [bne, q0]; rfl
  have h1b : (a.n != b.n) = false := by rw [bne, q1]; rfl
  have h2b : ((a.ln : Int) != b.ln) = false := by have : a.ln = b.ln := (by simpa using q2); simp [this]
  have h3b : ((a.mn : Int) != b.mn) = false := by have : a.mn = b.mn := (by simpa using q3); simp [this]
  have hln : a.ln = b.ln := by simpa using q2
  have hmn : a.mn = b.mn := by simpa using q3
  have HL := Lib.hid hln
  have HM := Lib.hid hmn
  have IL := Lib.hid ihl
  have IM := Lib.hid ihm
  clear q0 q1 q2 q3 hln hmn ihl ihm
  have hsb : (a.s.toList != b.s.toList) = false := by rw [bne, hs]; rfl
  have hS0 : Sees w ((w.alloc (Obj.cells a.c 38)).alloc (Obj.cells b.c 38)) [(w.heap.size, Obj.cells a.c 38), (w.heap.size + 1, Obj.cells b.c 38)] := by
    have := ((Sees.start w).alloc (Obj.cells a.c 38)).alloc (Obj.cells b.c 38)
    simpa using this
  go_enter Tryz.func128, Tryz.ntmps128
  go_wp2_with fail
  go_loopw [61] (fun iv wr => ∃ i : Nat, i ≤ a.ln ∧ iv = .int .i64 (i : Int) ∧ Hid (allTo (fun i => sameB num (a.lt i) (b.lt i)) i = true) ∧ Sees w wr [(w.heap.size, Obj.cells a.c 38), (w.heap.size + 1, Obj.cells b.c 38)]) (fun iv _ => a.ln - (intOf iv).toNat)
  case atStart => exact ⟨0, Nat.zero_le _, rfl, rfl, hS0⟩
  case round =>
    rename_i wr
    obtain ⟨i, hi, rfl, H, hS⟩ := hrel
    by_cases hlt : i < a.ln
    · have xa := HA.lix hlt
      have xb := HB.lix (HL.out ▸ hlt)
      have c3a : wr.cell? ⟨w.heap.size, 3, none⟩ = some (.slice a.lA a.ln a.lc) := (cell_of_row _ _ _ _ _ _ hS.g0).trans a3
      have c3b : wr.cell? ⟨w.heap.size + 1, 3, none⟩ = some (.slice b.lA b.ln b.lc) := (cell_of_row _ _ _ _ _ _ hS.g1).trans b3
      have c4a : wr.cell? ⟨w.heap.size, 4, none⟩ = some (.slice a.mA a.mn a.mc) := (cell_of_row _ _ _ _ _ _ hS.g0).trans a4
      have c4b : wr.cell? ⟨w.heap.size + 1, 4, none⟩ = some (.slice b.mA b.mn b.mc) := (cell_of_row _ _ _ _ _ _ hS.g1).trans b4
      have ka := cell_regrown c3a
      have kb := cell_regrown c3b
      have la := cells_regrown ((HA.move (hS.below)).lcell i hlt)
      have lb := cells_regrown ((HB.move (hS.below)).lcell i (HL.out ▸ hlt))
      have LA := Lib.hid la
      have LB := Lib.hid lb
      have hcall := fun W (hW : Below wr.heap.size wr W) => IL.out i hlt (b.lt i) W (hC _ _ hw (hS.below.trans (hW.mono hS.below.size))) (in_later (ha.l i hlt) hS.below hW) (in_later (hb.l i (HL.out ▸ hlt)) hS.below hW)
      have hone : Hid (allTo (fun i => sameB num (a.lt i) (b.lt i)) (i + 1) = sameB num (a.lt i) (b.lt i)) := by unfold Hid; rw [allTo, H.out]; rfl
      have hno := fun h => allTo_no (p := fun i => sameB num (a.lt i) (b.lt i)) hlt h
      have HNO := Lib.hid hno
      clear la lb hno
      cases hr : sameB num (a.lt i) (b.lt i)
      · rw [hr] at hcall
        have hcall := grown_calls hcall
        have hf := HNO.out hr
        have hf : Hid (sameB num a b = false) := by unfold Hid; rw [hh.out, hf]; rfl
        go_wp2_with fail
        refine wp_region_quiet_below (by kernel_rfl) (by kernel_rfl) ?_
        repeat (first | (refine BigFrame.wpQuiet_want rfl (fun K hK => ?_); refine quiet_load_cells 38 (.tmp 67) rfl _ _ rfl _ _ LA.out Tryz.underlying38 rfl (VT.val_info _) ?_; refine hK _ ?_; clear hK K) | (refine BigFrame.wpQuiet_want rfl (fun K hK => ?_); refine quiet_load_cells 38 (.tmp 72) rfl _ _ rfl _ _ LB.out Tryz.underlying38 rfl (VT.val_info _) ?_; refine hK _ ?_; clear hK K) | (quiet_step (with_reducible exact hcall _ _)))
        refine wpQuiet_nil ?_; rintro wq ⟨⟨dq, osq⟩, rfl⟩; have hbq := below_regrown wr dq osq; generalize Go.Sort.grow (redrawn wr dq) osq = wq at *
        go_wp2_with fail
        go_ret
        exact ⟨ret_bool hf.out.symm, (hS.step hbq).below⟩
      · rw [hr] at hcall
        have hcall := grown_calls hcall
        have hn : Hid (allTo (fun i => sameB num (a.lt i) (b.lt i)) (i + 1) = true) := hone.out.trans hr
        go_wp2_with fail
        refine wp_region_quiet_below (by kernel_rfl) (by kernel_rfl) ?_
        repeat (first | (refine BigFrame.wpQuiet_want rfl (fun K hK => ?_); refine quiet_load_cells 38 (.tmp 67) rfl _ _ rfl _ _ LA.out Tryz.underlying38 rfl (VT.val_info _) ?_; refine hK _ ?_; clear hK K) | (refine BigFrame.wpQuiet_want rfl (fun K hK => ?_); refine quiet_load_cells 38 (.tmp 72) rfl _ _ rfl _ _ LB.out Tryz.underlying38 rfl (VT.val_info _) ?_; refine hK _ ?_; clear hK K) | (quiet_step (with_reducible exact hcall _ _)))
        refine wpQuiet_nil ?_; rintro wq ⟨⟨dq, osq⟩, rfl⟩; have hbq := below_regrown wr dq osq; generalize Go.Sort.grow (redrawn wr dq) osq = wq at *
        go_wp2_with fail
        go_roundw
        case rel => exact ⟨i + 1, by omega, by go_num, hn, hS.step hbq⟩
        case measure => simp [intOf]; omega
    · obtain rfl : i = a.ln := by omega
      have hh : Hid (sameB num a b = allTo (fun i => (a.key i).toList == (b.key i).toList && sameB num (a.mt i) (b.mt i)) a.mn) := by unfold Hid; rw [hh.out, H.out]; rfl
      clear H
      have c3a : wr.cell? ⟨w.heap.size, 3, none⟩ = some (.slice a.lA a.ln a.lc) := (cell_of_row _ _ _ _ _ _ hS.g0).trans a3
      have c3b : wr.cell? ⟨w.heap.size + 1, 3, none⟩ = some (.slice b.lA b.ln b.lc) := (cell_of_row _ _ _ _ _ _ hS.g1).trans b3
      have c4a : wr.cell? ⟨w.heap.size, 4, none⟩ = some (.slice a.mA a.mn a.mc) := (cell_of_row _ _ _ _ _ _ hS.g0).trans a4
      have c4b : wr.cell? ⟨w.heap.size + 1, 4, none⟩ = some (.slice b.mA b.mn b.mc) := (cell_of_row _ _ _ _ _ _ hS.g1).trans b4
      go_wp2_with fail
      clear c3a c3b c4a c4b
      obtain ⟨wo, rfl⟩ : ∃ wo : World, wo = wr := ⟨_, rfl⟩
      go_loopw [81] (fun iv wr => ∃ i : Nat, i ≤ a.mn ∧ iv = .int .i64 (i : Int) ∧ Hid (allTo (fun i => (a.key i).toList == (b.key i).toList && sameB num (a.mt i) (b.mt i)) i = true) ∧ Sees w wr [(w.heap.size, Obj.cells a.c 38), (w.heap.size + 1, Obj.cells b.c 38)]) (fun iv _ => a.mn - (intOf iv).toNat)
      case atStart => exact ⟨0, Nat.zero_le _, rfl, rfl, hS⟩
      case round =>
        clear hS
        rename_i wr
        obtain ⟨i, hi, rfl, H, hS⟩ := hrel
        by_cases hlt : i < a.mn
        · have xa := HA.mix hlt
          have xb := HB.mix (HM.out ▸ hlt)
          have c3a : wr.cell? ⟨w.heap.size, 3, none⟩ = some (.slice a.lA a.ln a.lc) := (cell_of_row _ _ _ _ _ _ hS.g0).trans a3
          have c3b : wr.cell? ⟨w.heap.size + 1, 3, none⟩ = some (.slice b.lA b.ln b.lc) := (cell_of_row _ _ _ _ _ _ hS.g1).trans b3
          have c4a : wr.cell? ⟨w.heap.size, 4, none⟩ = some (.slice a.mA a.mn a.mc) := (cell_of_row _ _ _ _ _ _ hS.g0).trans a4
          have c4b : wr.cell? ⟨w.heap.size + 1, 4, none⟩ = some (.slice b.mA b.mn b.mc) := (cell_of_row _ _ _ _ _ _ hS.g1).trans b4
          have ka := cell_regrown c4a
          have kb := cell_regrown c4b
          have ya := cell_regrown ((HA.move hS.below).mkey hlt)
          have yb := cell_regrown ((HB.move hS.below).mkey (HM.out ▸ hlt))
          have LA := Lib.hid (cells_regrown ((HA.move hS.below).mval hlt))
          have LB := Lib.hid (cells_regrown ((HB.move hS.below).mval (HM.out ▸ hlt)))
          have hcall := fun W (hW : Below wr.heap.size wr W) => IM.out i hlt (b.mt i) W (hC _ _ hw (hS.below.trans (hW.mono hS.below.size))) (in_later (ha.m i hlt) hS.below hW) (in_later (hb.m i (HM.out ▸ hlt)) hS.below hW)
          have hone : Hid (allTo (fun i => (a.key i).toList == (b.key i).toList && sameB num (a.mt i) (b.mt i)) (i + 1) = ((a.key i).toList == (b.key i).toList && sameB num (a.mt i) (b.mt i))) := by unfold Hid; rw [allTo, H.out]; rfl
          have HNO := Lib.hid (fun h => allTo_no (p := fun i => (a.key i).toList == (b.key i).toList && sameB num (a.mt i) (b.mt i)) hlt h)
          cases hk : ((a.key i).toList == (b.key i).toList)
          · have hf : Hid (sameB num a b = false) := by unfold Hid; rw [hh.out]; exact HNO.out (by simp [hk])
            have hcall := Lib.hid hcall
            go_wp2_with fail
            refine wp_region_quiet_below (by kernel_rfl) (by kernel_rfl) ?_
            repeat (first | go_big_quiet_step (fail) | quiet_step (fail))
            refine wpQuiet_nil ?_; rintro wq ⟨⟨dq, osq⟩, rfl⟩; have hbq := below_regrown wr dq osq; generalize Go.Sort.grow (redrawn wr dq) osq = wq at *
            go_wp2_with fail
            go_ret
            exact ⟨ret_bool hf.out.symm, (hS.step hbq).below⟩
          cases hr : sameB num (a.mt i) (b.mt i)
          · rw [hr] at hcall
            have hcall := grown_calls hcall
            have hf : Hid (sameB num a b = false) := by unfold Hid; rw [hh.out]; exact HNO.out (by simp [hr])
            go_wp2_with fail
            refine wp_region_quiet_below (by kernel_rfl) (by kernel_rfl) ?_
            repeat (first | (refine BigFrame.wpQuiet_want rfl (fun K hK => ?_); refine quiet_load_cells 38 (.tmp 102) rfl _ _ rfl _ _ LA.out Tryz.underlying38 rfl (VT.val_info _) ?_; refine hK _ ?_; clear hK K) | (refine BigFrame.wpQuiet_want rfl (fun K hK => ?_); refine quiet_load_cells 38 (.tmp 108) rfl _ _ rfl _ _ LB.out Tryz.underlying38 rfl (VT.val_info _) ?_; refine hK _ ?_; clear hK K) | (quiet_step (with_reducible exact hcall _ _)))
            refine wpQuiet_nil ?_; rintro wq ⟨⟨dq, osq⟩, rfl⟩; have hbq := below_regrown wr dq osq; generalize Go.Sort.grow (redrawn wr dq) osq = wq at *
            go_wp2_with fail
            go_ret
            exact ⟨ret_bool hf.out.symm, (hS.step hbq).below⟩
          · rw [hr] at hcall
            have hcall := grown_calls hcall
            have hn : Hid (allTo (fun i => (a.key i).toList == (b.key i).toList && sameB num (a.mt i) (b.mt i)) (i + 1) = true) := by unfold Hid; rw [hone.out, hk, hr]; rfl
            go_wp2_with fail
            refine wp_region_quiet_below (by kernel_rfl) (by kernel_rfl) ?_
            repeat (first | (refine BigFrame.wpQuiet_want rfl (fun K hK => ?_); refine quiet_load_cells 38 (.tmp 102) rfl _ _ rfl _ _ LA.out Tryz.underlying38 rfl (VT.val_info _) ?_; refine hK _ ?_; clear hK K) | (refine BigFrame.wpQuiet_want rfl (fun K hK => ?_); refine quiet_load_cells 38 (.tmp 108) rfl _ _ rfl _ _ LB.out Tryz.underlying38 rfl (VT.val_info _) ?_; refine hK _ ?_; clear hK K) | (quiet_step (with_reducible exact hcall _ _)))
            refine wpQuiet_nil ?_; rintro wq ⟨⟨dq, osq⟩, rfl⟩; have hbq := below_regrown wr dq osq; generalize Go.Sort.grow (redrawn wr dq) osq = wq at *
            go_wp2_with fail
            go_roundw
            case rel => exact ⟨i + 1, by omega, by go_num, hn, hS.step hbq⟩
            case measure => simp [intOf]; omega
        · obtain rfl : i = a.mn := by omega
          go_wp2_with fail
          go_ret
          exact ⟨ret_bool (hh.out.trans H.out).symm, hS.below⟩
end
end Go.Proofs.YtffcpmohanhihaaGreatDoor
