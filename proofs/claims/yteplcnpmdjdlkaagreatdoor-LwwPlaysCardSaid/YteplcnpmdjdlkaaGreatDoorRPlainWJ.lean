/-
  The reference's plain, the kinds that have parts, then all. Condition: what Number and Int tell is known.
-/
import Derived.Test.YteplcnpmdjdlkaaGreatDoorRPlainJ
namespace Go.Proofs.YteplcnpmdjdlkaaGreatDoor
open Go.RowKit
set_option linter.unusedVariables false
set_option linter.unusedSimpArgs false
set_option linter.unusedSectionVars false
/-- What is to be shown of a tree. -/
def PlainOk (t : VT) : Prop := ∀ (w : World), VT.In w.heap.size w t → Calls Tryz.prog 45 #[.agg t.c] w fun e w' => e = .returned (.bool (plainT t)) ∧ Below w.heap.size w w'
set_option maxRecDepth 100000 in
set_option maxHeartbeats 1000000 in
theorem plain_five (t : VT) (w : World) (ht : VT.In w.heap.size w t) (ihl : ∀ i, i < t.ln → PlainOk (t.lt i)) (hk : t.k = 5) (hn : t.n = 0) (hs : (t.s.toList == []) = true) (hm : (t.mn == 0) = true) :
    Calls Tryz.prog 45 #[.agg t.c] w fun e w' => e = .returned (.bool (plainT t)) ∧ Below w.heap.size w w' := by
  have hh : Hid (plainT t = allTo (fun i => plainT (t.lt i)) t.ln) := by
    unfold Hid
    have hs0 : t.s.toList.isEmpty = true := by cases hq : t.s.toList <;> simp_all
    have h2 : t.mn = 0 := by simpa using hm
    rw [plainT_eq, h2]; unfold ownV ownB; simp [hk, hn, hs0, hm, allTo]
  have IL := Lib.hid ihl
  clear ihl
  have a0 : t.c[0]? = some (.int .i64 5) := congrArg (fun x => some (Value.int .i64 x)) hk
  have a1 : t.c[1]? = some (.int .i64 0) := congrArg (fun x => some (Value.int .i64 x)) hn
  have hsb : (t.s.toList != []) = false := congrArg (fun b => !b) hs
  have a2 : t.c[2]? = some (.string t.s) := rfl
  have a3 : t.c[3]? = some (.slice t.lA t.ln t.lc) := rfl
  have a4 : t.c[4]? = some (.slice t.mA t.mn t.mc) := rfl
  have HA := ht.here
  have hll := HA.ll
  have hml := HA.ml
  have hS0 : Sees w (w.alloc (Obj.cells t.c 34)) [(w.heap.size, Obj.cells t.c 34)] := (Sees.start w).alloc _
  have hm2 : decide ((0 : Int) < t.mn) = false := (len_l hm).1
  have hm3 : decide (0 < t.mn) = false := (len_l hm).2
  go_enter Tryz.func45, Tryz.ntmps45
  go_wp2_with go_skip
  go_loopw [6] (fun iv wr => ∃ (i : Nat), i ≤ t.ln ∧ iv = .int .i64 (i : Int) ∧ Hid (allTo (fun i => plainT (t.lt i)) i = true) ∧ Sees w wr [(w.heap.size, Obj.cells t.c 34)]) (fun iv _ => t.ln - (intOf iv).toNat)
  case atStart => exact ⟨0, Nat.zero_le _, rfl, rfl, hS0⟩
  case round =>
    rename_i wr
    obtain ⟨i, hi, rfl, H, hS⟩ := hrel
    have c3 : wr.cell? ⟨w.heap.size, 3, none⟩ = some (.slice t.lA t.ln t.lc) := (cell_of_row _ _ _ _ _ _ hS.g0).trans a3
    by_cases hlt : i < t.ln
    · have xa := HA.lix hlt
      have LA := Lib.hid ((HA.move (hS.below)).lcell i hlt)
      have HK := IL.out i hlt wr (in_later (ht.l i hlt) hS.below (Below.refl _ _))
      cases hr : plainT (t.lt i)
      · have hf : Hid (plainT t = false) := by unfold Hid; rw [hh.out]; exact allTo_no (p := fun i => plainT (t.lt i)) hlt hr
        rw [hr] at HK
        have HK := Lib.hid HK
        clear hr
        go_wp2_with (first | go_skip | (refine load_cells rfl 34 (.tmp 109) rfl _ _ rfl _ _ LA.out Tryz.underlying34 rfl (VT.val_info _) ?_) | (go_at_call 45; with_reducible (refine HK.out.mono ?_); rintro e wn ⟨rfl, hbn⟩; have hS1 := hS.step hbn; clear hS hbn; have hS := hS1; clear hS1))
        go_ret
        exact ⟨ret_bool hf.out.symm, hS.below⟩
      · have hx : Hid (allTo (fun i => plainT (t.lt i)) (i + 1) = true) := by unfold Hid; rw [allTo, H.out, hr]; rfl
        rw [hr] at HK
        have HK := Lib.hid HK
        clear hr
        go_wp2_with (first | go_skip | (refine load_cells rfl 34 (.tmp 109) rfl _ _ rfl _ _ LA.out Tryz.underlying34 rfl (VT.val_info _) ?_) | (go_at_call 45; with_reducible (refine HK.out.mono ?_); rintro e wn ⟨rfl, hbn⟩; have hS1 := hS.step hbn; clear hS hbn; have hS := hS1; clear hS1))
        go_roundw
        case rel => exact ⟨i + 1, by omega, by go_num, hx, hS⟩
        case measure => simp [intOf]; omega
    · have hge : decide ((i : Int) < t.ln) = false := by simp; omega
      obtain rfl : i = t.ln := by omega
      go_wp2_with go_skip
      go_ret
      exact ⟨ret_bool (hh.out.trans H.out).symm, hS.below⟩
set_option maxRecDepth 100000 in
set_option maxHeartbeats 8000000 in
theorem plain_six (t : VT) (w : World) (ht : VT.In w.heap.size w t) (ihm : ∀ i, i < t.mn → PlainOk (t.mt i)) (hk : t.k = 6) (hn : t.n = 0) (hs : (t.s.toList == []) = true) (hl : (t.ln == 0) = true) :
    Calls Tryz.prog 45 #[.agg t.c] w fun e w' => e = .returned (.bool (plainT t)) ∧ Below w.heap.size w w' := by
  have hh : Hid (plainT t = allTo (fun i => keyB t.key i && plainT (t.mt i)) t.mn) := by
    unfold Hid
    have hs0 : t.s.toList.isEmpty = true := by cases hq : t.s.toList <;> simp_all
    have h2 : t.ln = 0 := by simpa using hl
    rw [plainT_eq, h2]; unfold ownV ownB; simp [hk, hn, hs0, hl, allTo]
  have IM := Lib.hid ihm
  clear ihm
  have a0 : t.c[0]? = some (.int .i64 6) := congrArg (fun x => some (Value.int .i64 x)) hk
  have a1 : t.c[1]? = some (.int .i64 0) := congrArg (fun x => some (Value.int .i64 x)) hn
  have hsb : (t.s.toList != []) = false := congrArg (fun b => !b) hs
  have a2 : t.c[2]? = some (.string t.s) := rfl
  have a3 : t.c[3]? = some (.slice t.lA t.ln t.lc) := rfl
  have a4 : t.c[4]? = some (.slice t.mA t.mn t.mc) := rfl
  have HA := ht.here
  have hll := HA.ll
  have hml := HA.ml
  have hS0 : Sees w (w.alloc (Obj.cells t.c 34)) [(w.heap.size, Obj.cells t.c 34)] := (Sees.start w).alloc _
  have hl2 : decide ((0 : Int) < t.ln) = false := (len_l hl).1
  have hl3 : decide (0 < t.ln) = false := (len_l hl).2
  go_enter Tryz.func45, Tryz.ntmps45
  go_wp2_with go_skip
  go_loopw [7] (fun iv wr => ∃ (i : Nat), i ≤ t.mn ∧ iv = .int .i64 (i : Int) ∧ Hid (allTo (fun i => keyB t.key i && plainT (t.mt i)) i = true) ∧ Sees w wr [(w.heap.size, Obj.cells t.c 34)]) (fun iv _ => t.mn - (intOf iv).toNat)
  case atStart => exact ⟨0, Nat.zero_le _, rfl, rfl, hS0⟩
  case round =>
    rename_i wr
    obtain ⟨i, hi, rfl, H, hS⟩ := hrel
    have c4 : wr.cell? ⟨w.heap.size, 4, none⟩ = some (.slice t.mA t.mn t.mc) := (cell_of_row _ _ _ _ _ _ hS.g0).trans a4
    by_cases hlt : i < t.mn
    · have xa := HA.mix hlt
      have k4 := cell_regrown c4
      have ky := cell_regrown ((HA.move hS.below).mkey hlt)
      have LA := Lib.hid (cells_regrown ((HA.move hS.below).mval hlt))
      have cS := fun W (_ : Below wr.heap.size wr W) => rstr_any (t.key i) W
      have cP := fun W (hW : Below wr.heap.size wr W) => IM.out i hlt W (in_later (ht.m i hlt) hS.below hW)
      have hwi : IntKind.i64.wrap ((i : Int) - 1) = (i : Int) - 1 := IntWalk.i64_in _ (by omega)
      cases hl : (letC (t.key i) == 0)
      · have hz := Lib.hid (show keyB t.key i = false by unfold keyB; rw [hl]; rfl)
        rw [hl] at cS
        clear cP
        have cS := grown_calls cS
        have hf : Hid (plainT t = false) := by unfold Hid; rw [hh.out]; exact allTo_no (p := fun i => keyB t.key i && plainT (t.mt i)) hlt (by simp [hz.out])
        go_wp2_with go_skip
        refine wp_region_quiet_below (by kernel_rfl) (by kernel_rfl) ?_
        repeat (first | go_big_quiet_skip | (refine BigFrame.wpQuiet_want rfl (fun K hK => ?_); refine quiet_load_cells 34 (.tmp 155) rfl _ _ rfl _ _ LA.out Tryz.underlying34 rfl (VT.val_info _) ?_; refine hK _ ?_; clear hK K) | (quiet_step (with_reducible exact cS _ _)) | (quiet_step (with_reducible exact cP _ _)))
        refine wpQuiet_nil ?_; rintro wq ⟨⟨dq, osq⟩, rfl⟩; have hbq := below_regrown wr dq osq; generalize Go.Sort.grow (redrawn wr dq) osq = wq at *
        have hS1 := hS.step hbq
        clear hS hbq
        have hS := hS1
        clear hS1
        go_wp2_with go_skip
        go_ret
        exact ⟨ret_bool hf.out.symm, hS.below⟩
      rw [hl] at cS
      have cS := grown_calls cS
      by_cases hz : i = 0
      · have hz1 : decide ((0 : Int) < i) = false := by simp; omega
        have hz2 : decide (0 < i) = false := by simp; omega
        have hkb := Lib.hid (show keyB t.key i = true by unfold keyB; rw [hl, hz2]; rfl)
        clear hz
        cases hr : plainT (t.mt i)
        · have hr2 := Lib.hid hr
          rw [hr] at cP
          have cP := grown_calls cP
          clear hr
          have hf : Hid (plainT t = false) := by unfold Hid; rw [hh.out]; exact allTo_no (p := fun i => keyB t.key i && plainT (t.mt i)) hlt (by simp [hr2.out])
          go_wp2_with go_skip
          refine wp_region_quiet_below (by kernel_rfl) (by kernel_rfl) ?_
          repeat (first | go_big_quiet_skip | (refine BigFrame.wpQuiet_want rfl (fun K hK => ?_); refine quiet_load_cells 34 (.tmp 155) rfl _ _ rfl _ _ LA.out Tryz.underlying34 rfl (VT.val_info _) ?_; refine hK _ ?_; clear hK K) | (quiet_step (with_reducible exact cS _ _)) | (quiet_step (with_reducible exact cP _ _)))
          refine wpQuiet_nil ?_; rintro wq ⟨⟨dq, osq⟩, rfl⟩; have hbq := below_regrown wr dq osq; generalize Go.Sort.grow (redrawn wr dq) osq = wq at *
          have hS1 := hS.step hbq
          clear hS hbq
          have hS := hS1
          clear hS1
          go_wp2_with go_skip
          go_ret
          exact ⟨ret_bool hf.out.symm, hS.below⟩
        · have hx : Hid (allTo (fun i => keyB t.key i && plainT (t.mt i)) (i + 1) = true) := by unfold Hid; rw [allTo, H.out, hkb.out, hr]; rfl
          rw [hr] at cP
          have cP := grown_calls cP
          clear hr
          go_wp2_with go_skip
          refine wp_region_quiet_below (by kernel_rfl) (by kernel_rfl) ?_
          repeat (first | go_big_quiet_skip | (refine BigFrame.wpQuiet_want rfl (fun K hK => ?_); refine quiet_load_cells 34 (.tmp 155) rfl _ _ rfl _ _ LA.out Tryz.underlying34 rfl (VT.val_info _) ?_; refine hK _ ?_; clear hK K) | (quiet_step (with_reducible exact cS _ _)) | (quiet_step (with_reducible exact cP _ _)))
          refine wpQuiet_nil ?_; rintro wq ⟨⟨dq, osq⟩, rfl⟩; have hbq := below_regrown wr dq osq; generalize Go.Sort.grow (redrawn wr dq) osq = wq at *
          have hS1 := hS.step hbq
          clear hS hbq
          have hS := hS1
          clear hS1
          go_wp2_with go_skip
          go_roundw
          case rel => exact ⟨i + 1, by omega, by go_num, hx, hS⟩
          case measure => simp [intOf]; omega
      · have hz1 : decide ((0 : Int) < i) = true := by simp; omega
        have hz2 : decide (0 < i) = true := by simp; omega
        have KJ := Lib.hid (show ∀ W, (Instr.indexAt 32 (.slice t.mA t.mn t.mc) (.int .i64 ((i : Int) - 1))).run Tryz.prog W = .ok (.pointer (some ⟨t.mb, t.mo + (i - 1) * 6, none⟩)) W from fun W => by
          rw [show (i : Int) - 1 = ((i - 1 : Nat) : Int) by omega]; exact HA.mix (by omega) W)
        have hz9 : i - 1 < t.mn := by omega
        clear hz
        have kz := cell_regrown ((HA.move hS.below).mkey hz9)
        have xj := KJ.out
        cases hb1 : Op.bytesLess (t.key i).toList (t.key (i - 1)).toList
        · cases hb2 : ((t.key i).toList == (t.key (i - 1)).toList)
          · have hkb := Lib.hid (show keyB t.key i = true by unfold keyB risesB; rw [hl, hz2, hb1, hb2]; rfl)
            cases hr : plainT (t.mt i)
            · have hr2 := Lib.hid hr
              rw [hr] at cP
              have cP := grown_calls cP
              clear hr
              have hf : Hid (plainT t = false) := by unfold Hid; rw [hh.out]; exact allTo_no (p := fun i => keyB t.key i && plainT (t.mt i)) hlt (by simp [hr2.out])
              go_wp2_with go_skip
              refine wp_region_quiet_below (by kernel_rfl) (by kernel_rfl) ?_
              repeat (first | go_big_quiet_skip | (refine BigFrame.wpQuiet_want rfl (fun K hK => ?_); refine quiet_load_cells 34 (.tmp 155) rfl _ _ rfl _ _ LA.out Tryz.underlying34 rfl (VT.val_info _) ?_; refine hK _ ?_; clear hK K) | (quiet_step (with_reducible exact cS _ _)) | (quiet_step (with_reducible exact cP _ _)))
              refine wpQuiet_nil ?_; rintro wq ⟨⟨dq, osq⟩, rfl⟩; have hbq := below_regrown wr dq osq; generalize Go.Sort.grow (redrawn wr dq) osq = wq at *
              have hS1 := hS.step hbq
              clear hS hbq
              have hS := hS1
              clear hS1
              go_wp2_with go_skip
              go_ret
              exact ⟨ret_bool hf.out.symm, hS.below⟩
            · have hx : Hid (allTo (fun i => keyB t.key i && plainT (t.mt i)) (i + 1) = true) := by unfold Hid; rw [allTo, H.out, hkb.out, hr]; rfl
              rw [hr] at cP
              have cP := grown_calls cP
              clear hr
              go_wp2_with go_skip
              refine wp_region_quiet_below (by kernel_rfl) (by kernel_rfl) ?_
              repeat (first | go_big_quiet_skip | (refine BigFrame.wpQuiet_want rfl (fun K hK => ?_); refine quiet_load_cells 34 (.tmp 155) rfl _ _ rfl _ _ LA.out Tryz.underlying34 rfl (VT.val_info _) ?_; refine hK _ ?_; clear hK K) | (quiet_step (with_reducible exact cS _ _)) | (quiet_step (with_reducible exact cP _ _)))
              refine wpQuiet_nil ?_; rintro wq ⟨⟨dq, osq⟩, rfl⟩; have hbq := below_regrown wr dq osq; generalize Go.Sort.grow (redrawn wr dq) osq = wq at *
              have hS1 := hS.step hbq
              clear hS hbq
              have hS := hS1
              clear hS1
              go_wp2_with go_skip
              go_roundw
              case rel => exact ⟨i + 1, by omega, by go_num, hx, hS⟩
              case measure => simp [intOf]; omega
          · have hz3 := Lib.hid (show keyB t.key i = false by unfold keyB risesB; rw [hl, hz2, hb1, hb2]; rfl)
            clear cP
            have hf : Hid (plainT t = false) := by unfold Hid; rw [hh.out]; exact allTo_no (p := fun i => keyB t.key i && plainT (t.mt i)) hlt (by simp [hz3.out])
            go_wp2_with go_skip
            refine wp_region_quiet_below (by kernel_rfl) (by kernel_rfl) ?_
            repeat (first | go_big_quiet_skip | (refine BigFrame.wpQuiet_want rfl (fun K hK => ?_); refine quiet_load_cells 34 (.tmp 155) rfl _ _ rfl _ _ LA.out Tryz.underlying34 rfl (VT.val_info _) ?_; refine hK _ ?_; clear hK K) | (quiet_step (with_reducible exact cS _ _)) | (quiet_step (with_reducible exact cP _ _)))
            refine wpQuiet_nil ?_; rintro wq ⟨⟨dq, osq⟩, rfl⟩; have hbq := below_regrown wr dq osq; generalize Go.Sort.grow (redrawn wr dq) osq = wq at *
            have hS1 := hS.step hbq
            clear hS hbq
            have hS := hS1
            clear hS1
            go_wp2_with go_skip
            go_ret
            exact ⟨ret_bool hf.out.symm, hS.below⟩
        · have hz3 := Lib.hid (show keyB t.key i = false by unfold keyB risesB; rw [hl, hz2, hb1]; rfl)
          clear cP
          have hf : Hid (plainT t = false) := by unfold Hid; rw [hh.out]; exact allTo_no (p := fun i => keyB t.key i && plainT (t.mt i)) hlt (by simp [hz3.out])
          go_wp2_with go_skip
          refine wp_region_quiet_below (by kernel_rfl) (by kernel_rfl) ?_
          repeat (first | go_big_quiet_skip | (refine BigFrame.wpQuiet_want rfl (fun K hK => ?_); refine quiet_load_cells 34 (.tmp 155) rfl _ _ rfl _ _ LA.out Tryz.underlying34 rfl (VT.val_info _) ?_; refine hK _ ?_; clear hK K) | (quiet_step (with_reducible exact cS _ _)) | (quiet_step (with_reducible exact cP _ _)))
          refine wpQuiet_nil ?_; rintro wq ⟨⟨dq, osq⟩, rfl⟩; have hbq := below_regrown wr dq osq; generalize Go.Sort.grow (redrawn wr dq) osq = wq at *
          have hS1 := hS.step hbq
          clear hS hbq
          have hS := hS1
          clear hS1
          go_wp2_with go_skip
          go_ret
          exact ⟨ret_bool hf.out.symm, hS.below⟩
    · have hge : decide ((i : Int) < t.mn) = false := by simp; omega
      obtain rfl : i = t.mn := by omega
      go_wp2_with go_skip
      go_ret
      exact ⟨ret_bool (hh.out.trans H.out).symm, hS.below⟩
section
variable (HI : ∀ (s : ByteArray) (w : World), s.size ≤ 9223372036854775807 → Calls Tryz.prog 60 #[.string s] w fun e w' => (∃ r, e = .returned (.tuple #[.int .i64 r, .bool (intN s.data.toList).isSome])) ∧ Below w.heap.size w w')
  (HG : ∀ (s : ByteArray) (w : World), s.size ≤ 9223372036854775807 → Calls Tryz.prog 61 #[.string s] w fun e w' => e = .returned (.bool (goodN s.data.toList)) ∧ Below w.heap.size w w')
  (HS : ∀ (s : ByteArray) (w : World), s.size ≤ 9223372036854775807 → Calls Tryz.prog 62 #[.string s] w fun e w' => e = .returned (.bool (stampB s)) ∧ Below w.heap.size w w')
include HI HG HS
theorem plain_v (t : VT) : PlainOk t := by
  have key : ∀ t : VT, (∀ i, i < t.ln → PlainOk (t.lt i)) → (∀ i, i < t.mn → PlainOk (t.mt i)) → PlainOk t := by
    intro t ihl ihm w ht
    have hz := ht.here.sl
    by_cases k0 : t.k = 0
    · by_cases hn : t.n = 0
      case neg => exact plain_0n t w hz k0 (by simpa using hn)
      cases hs : (t.s.toList == [])
      case false => exact plain_0s t w hz k0 hn hs
      cases hl : (t.ln == 0)
      case false => exact plain_0l t w hz k0 hn hs hl
      cases hm : (t.mn == 0)
      case false => exact plain_0m t w hz k0 hn hs hl hm
      exact plain_0t t w hz k0 hn hs hl hm
    by_cases k5 : t.k = 5
    · by_cases hn : t.n = 0
      case neg => exact plain_5n t w hz k5 (by simpa using hn)
      cases hs : (t.s.toList == [])
      case false => exact plain_5s t w hz k5 hn hs
      cases hm : (t.mn == 0)
      case false => exact plain_5m t w hz k5 hn hs hm
      exact plain_five t w ht ihl k5 hn hs hm
    by_cases k6 : t.k = 6
    · by_cases hn : t.n = 0
      case neg => exact plain_6n t w hz k6 (by simpa using hn)
      cases hs : (t.s.toList == [])
      case false => exact plain_6s t w hz k6 hn hs
      cases hl : (t.ln == 0)
      case false => exact plain_6l t w hz k6 hn hs hl
      exact plain_six t w ht ihm k6 hn hs hl
    by_cases k1 : t.k = 1
    · cases hs : (t.s.toList == [])
      case false => exact plain_1s t w hz k1 hs
      cases hl : (t.ln == 0)
      case false => exact plain_1l t w hz k1 hs hl
      cases hm : (t.mn == 0)
      case false => exact plain_1m t w hz k1 hs hl hm
      by_cases hn : t.n = 0
      · exact plain_1a t w hz k1 hn hs hl hm
      have hn2 : (t.n == 0) = false := by simpa using hn
      cases hn1 : (t.n == 1)
      · exact plain_1c t w hz k1 hn2 hn1 hs hl hm
      · exact plain_1b t w hz k1 hn2 hn1 hs hl hm
    by_cases k2 : t.k = 2
    · cases hs : (t.s.toList == [])
      case false => exact plain_2s t w hz k2 hs
      cases hl : (t.ln == 0)
      case false => exact plain_2l t w hz k2 hs hl
      cases hm : (t.mn == 0)
      case false => exact plain_2m t w hz k2 hs hl hm
      exact plain_2t t w hz k2 hs hl hm
    by_cases k3 : t.k = 3
    · by_cases hn : t.n = 0
      case neg => exact plain_3n t w hz k3 (by simpa using hn)
      cases hl : (t.ln == 0)
      case false => exact plain_3l t w hz k3 hn hl
      cases hm : (t.mn == 0)
      case false => exact plain_3m t w hz k3 hn hl hm
      cases hg : goodN t.s.data.toList
      · exact plain_3a t w hz k3 hn hl hm (Lib.hid HI) (Lib.hid HG) hg
      · exact plain_3b t w hz k3 hn hl hm (Lib.hid HI) (Lib.hid HG) hg
    by_cases k4 : t.k = 4
    · by_cases hn : t.n = 0
      case neg => exact plain_4n t w hz k4 (by simpa using hn)
      cases hl : (t.ln == 0)
      case false => exact plain_4l t w hz k4 hn hl
      cases hm : (t.mn == 0)
      case false => exact plain_4m t w hz k4 hn hl hm
      exact plain_4t t w hz k4 hn hl hm (Lib.hid fun s w => rstr_any s w)
    by_cases k7 : t.k = 7
    · by_cases hn : t.n = 0
      case neg => exact plain_7n t w hz k7 (by simpa using hn)
      cases hl : (t.ln == 0)
      case false => exact plain_7l t w hz k7 hn hl
      cases hm : (t.mn == 0)
      case false => exact plain_7m t w hz k7 hn hl hm
      exact plain_7t t w hz k7 hn hl hm (Lib.hid HS)
    · have b0 : (t.k == 0) = false := by simpa using k0
      have b1 : (t.k == 1) = false := by simpa using k1
      have b2 : (t.k == 2) = false := by simpa using k2
      have b3 : (t.k == 3) = false := by simpa using k3
      have b4 : (t.k == 4) = false := by simpa using k4
      have b5 : (t.k == 5) = false := by simpa using k5
      have b6 : (t.k == 6) = false := by simpa using k6
      have b7 : (t.k == 7) = false := by simpa using k7
      by_cases hn : t.n = 0
      case neg => exact plain_xn t w hz b0 b1 b2 b3 b4 b5 b6 b7 (by simpa using hn)
      cases hs : (t.s.toList == [])
      case false => exact plain_xs t w hz b0 b1 b2 b3 b4 b5 b6 b7 hn hs
      cases hl : (t.ln == 0)
      case false => exact plain_xl t w hz b0 b1 b2 b3 b4 b5 b6 b7 hn hs hl
      cases hm : (t.mn == 0)
      case false => exact plain_xm t w hz b0 b1 b2 b3 b4 b5 b6 b7 hn hs hl hm
      exact plain_xt t w hz b0 b1 b2 b3 b4 b5 b6 b7 hn hs hl hm
  induction t with
  | no => exact key .no (fun i hi => absurd hi (Nat.not_lt_zero i)) (fun i hi => absurd hi (Nat.not_lt_zero i))
  | mk k n s lA lb lo ln lc lt mA mb mo mn mc ky mt ihl ihm => exact key _ (fun i _ => ihl i) (fun i _ => ihm i)
end
end Go.Proofs.YteplcnpmdjdlkaaGreatDoor
