/-
  Buffer.wait, walked. Condition: the buffer is one's own; at most 256 wait.
-/
import Derived.Test.YtffcpmohanhihaaGreatDoorJ20
namespace Go.Proofs.YtffcpmohanhihaaGreatDoor
open Go.RowKit Go.Sort
set_option linter.unusedVariables false
set_option linter.unusedSimpArgs false
set_option linter.unusedSectionVars false
noncomputable def bw8 : Array Oper := regOf Tryz.f24 8
theorem ButS.then' {S S' : List Nat} {w W W' : World} (h : ButS S w W) (k : ButS S' W W') (hs : ∀ k ∈ S', k ∈ S) : ButS S w W' := h.then (k.more hs)
theorem twice_some {x z : OT} {L : List OT} (h : L[posI x L]? = some z) : twiceB x L = sameI z x := by unfold twiceB; rw [h]
def WaitPost (p : Nat) (A : Option Addr) (c : Nat) (L : List OT) (x : OT) (w0 w : World) (e : Ending) (w' : World) : Prop := ∃ r L' A' c', e = .returned (.int .i64 r) ∧ Waited x L r L' ∧ BufAt w0 w' p A' c' L' ∧ ButS (p :: ownL (.slice A L.length c)) w w' ∧ ((Value.slice A' L'.length c').ownBlock = (Value.slice A L.length c).ownBlock ∨ ∃ k, (Value.slice A' L'.length c').ownBlock = some k ∧ w.heap.size ≤ k)
section
variable (p : Nat) (A : Option Addr) (c : Nat) (L : List OT) (x : OT) (w0 w : World) (hb : BufAt w0 w p A c L) (hx : OT.Ok x) (hL : L.length ≤ 256) (hw0 : w0.heap.size ≤ w.heap.size)
include hb hx hL hw0
set_option maxRecDepth 100000 in
set_option maxHeartbeats 4000000 in
theorem wait_any : Calls Tryz.prog 24 #[.pointer (some ⟨p, 0, none⟩), opv x.o] w fun e w' => WaitPost p A c L x w0 w e w' := by
  have HBF := Lib.hid hb
  have HX := Lib.hid hx
  have HL := Lib.hid hL
  have HW := Lib.hid hw0
  have hxs := hx.seen
  obtain ⟨A', g, c', e0, hO, hcc⟩ := hb.row.slice
  injection e0 with ea _ ec
  subst ea ec
  have HO := Lib.hid hO
  have hS : Boxes w (w.alloc (Obj.cells x.o.c 40)) [(w.heap.size, Obj.cells x.o.c 40)] := (Boxes.start w).alloc _
  have HP := Lib.hid (Array.getElem?_eq_some_iff.1 hb.at_).1
  clear hb hx hL hw0 hO
  go_enter Tryz.func24, Tryz.ntmps24
  go_upto_block 0 with go_skip
  generalize (w.alloc (Obj.cells x.o.c 40)) = w1 at *
  go_cut [5] (fun v wx => ∃ m : Nat, m ≤ L.length ∧ v = .int .i64 (m : Int) ∧ posI x L = m ∧ Boxes w wx [(w.heap.size, Obj.cells x.o.c 40)])
  case first =>
    go_wp2_with go_skip
    go_loopw [5] (fun iv wr => ∃ m : Nat, m ≤ L.length ∧ iv = .int .i64 (m : Int) ∧ (∀ (i : Nat) z, i < m → L[i]? = some z → lessI z x = true) ∧ Boxes w wr [(w.heap.size, Obj.cells x.o.c 40)]) (fun iv _ => L.length - (intOf iv).toNat)
    case atStart => exact ⟨0, Nat.zero_le _, rfl, fun i z hi => absurd hi (Nat.not_lt_zero i), hS⟩
    case round =>
      clear hS
      have hLs : L.length ≤ 256 := HL.out
      rename World => wr
      obtain ⟨m, hm, rfl, hlow, hS⟩ := hrel
      have HLOW := Lib.hid hlow
      clear hlow
      have qb := cell_regrown (show wr.cell? ⟨p, 0, none⟩ = some (.slice A L.length c) by rw [cell_of_row _ _ _ _ _ _ ((hS.below.block p HP.out).trans HBF.out.at_)]; rfl)
      have xi := Lib.hid (cells_regrown (w := wr) (b := w.heap.size) (i := 0) (cs := #[.int .i64 x.o.R, .int .i64 x.o.N]) (fun j v hv => (cell_of_row _ _ _ _ _ _ (hS.at_ 0 rfl)).trans (OpV.pId j v hv)))
      by_cases hml : m < L.length
      · have hmlb : decide ((m : Int) < L.length) = true := by simp; omega
        obtain ⟨z, hz⟩ : ∃ z, L[m]? = some z := ⟨_, List.getElem?_eq_getElem hml⟩
        have HZz := Lib.hid hz
        have HZo := Lib.hid (HO.out.ok z (List.mem_of_getElem? hz))
        have iz := HO.out.ix hml c
        have zi := Lib.hid (cells_regrown (w := wr) (b := g) (i := m * 79) (cs := #[.int .i64 z.o.R, .int .i64 z.o.N]) (fun j v hv => by
          have := (HO.out.move hS.below).c m z hz j v (by have := OpV.pId (o := z.o) j v hv; rwa [Nat.zero_add] at this)
          rwa [Nat.zero_add] at this))
        simp only [Nat.zero_add] at iz
        have cL := grown_calls (w := wr) (fun W' _ => Less_any z.o.R z.o.N x.o.R x.o.N W')
        clear hz
        cases hl : lessI z x
        · have HPOS := Lib.hid (posI_eq (x := x) hm HLOW.out (fun u hu => by obtain rfl := Option.some.inj (HZz.out.symm.trans hu); exact hl))
          have hl2 : lessB z.o.R z.o.N x.o.R x.o.N = false := hl
          rw [hl2] at cL
          go_wp2_with go_skip
          refine wp_region_quiet_below (by kernel_rfl) (by kernel_rfl) ?_
          repeat (first | go_big_quiet_skip | (refine BigFrame.wpQuiet_want rfl (fun K hK => ?_); refine quiet_load_cells 31 (.tmp 20) rfl _ _ rfl _ _ zi.out Tryz.underlying31 rfl (id_info _ _) ?_; refine hK _ ?_; clear hK K) | (refine BigFrame.wpQuiet_want rfl (fun K hK => ?_); refine quiet_load_cells 31 (.tmp 22) rfl _ _ rfl _ _ xi.out Tryz.underlying31 rfl (id_info _ _) ?_; refine hK _ ?_; clear hK K) | (quiet_step (with_reducible exact cL _ _)))
          refine wpQuiet_nil ?_; rintro wz ⟨⟨dq, osq⟩, rfl⟩; have hbn := below_regrown wr dq osq; generalize Go.Sort.grow (redrawn wr dq) osq = wz at *
          have hS1 := hS.step hbn; clear hS hbn; have hS := hS1; clear hS1
          clear qb xi zi cL hl2
          go_wp2_with go_skip
          go_meet
          case rel => exact ⟨m, hm, rfl, HPOS.out, hS⟩
        · have hl2 : lessB z.o.R z.o.N x.o.R x.o.N = true := hl
          rw [hl2] at cL
          go_wp2_with go_skip
          refine wp_region_quiet_below (by kernel_rfl) (by kernel_rfl) ?_
          repeat (first | go_big_quiet_skip | (refine BigFrame.wpQuiet_want rfl (fun K hK => ?_); refine quiet_load_cells 31 (.tmp 20) rfl _ _ rfl _ _ zi.out Tryz.underlying31 rfl (id_info _ _) ?_; refine hK _ ?_; clear hK K) | (refine BigFrame.wpQuiet_want rfl (fun K hK => ?_); refine quiet_load_cells 31 (.tmp 22) rfl _ _ rfl _ _ xi.out Tryz.underlying31 rfl (id_info _ _) ?_; refine hK _ ?_; clear hK K) | (quiet_step (with_reducible exact cL _ _)))
          refine wpQuiet_nil ?_; rintro wz ⟨⟨dq, osq⟩, rfl⟩; have hbn := below_regrown wr dq osq; generalize Go.Sort.grow (redrawn wr dq) osq = wz at *
          have hS1 := hS.step hbn; clear hS hbn; have hS := hS1; clear hS1
          clear qb xi zi cL iz
          go_wp2_with go_skip
          go_roundw
          case rel => exact ⟨m + 1, by omega, by go_num, fun i u hi hu => by rcases (show i < m ∨ i = m by omega) with h | h; exact HLOW.out i u h hu; subst h; obtain rfl := Option.some.inj (HZz.out.symm.trans hu); exact hl, hS⟩
          case measure => first | (simp [intOf]; done) | (simp [intOf]; omega)
      · have hmlb : decide ((m : Int) < L.length) = false := by simp; omega
        obtain rfl : m = L.length := by omega
        have HPOS := Lib.hid (posI_eq (x := x) hm HLOW.out (fun u hu => by rw [List.getElem?_eq_none (Nat.le_refl _)] at hu; cases hu))
        go_wp2_with go_skip
        refine wp_region_quiet_below (by kernel_rfl) (by kernel_rfl) ?_
        repeat (first | go_big_quiet_skip | (quiet_step (fail)))
        refine wpQuiet_nil ?_; rintro wz ⟨⟨dq, osq⟩, rfl⟩; have hbn := below_regrown wr dq osq; generalize Go.Sort.grow (redrawn wr dq) osq = wz at *
        have hS1 := hS.step hbn; clear hS hbn; have hS := hS1; clear hS1
        clear qb xi
        go_wp2_with go_skip
        go_meet
        case rel => exact ⟨L.length, hm, rfl, HPOS.out, hS⟩
  case rest =>
    clear hS
    obtain ⟨m, hm, rfl, hpos, hS⟩ := hcut
    have HPOS := Lib.hid hpos
    have hLs : L.length ≤ 256 := HL.out
    clear hpos
    rename World => wy
    go_upto_block 2 with go_skip
    go_cut [28, 49] (fun _ _ wx => twiceB x L = false ∧ L.length ≠ 256 ∧ Boxes w wx [(w.heap.size, Obj.cells x.o.c 40)])
    case first =>
      go_upto_region 4 with go_skip
      by_cases hml : m < L.length
      · have hmlb : decide ((m : Int) < L.length) = true := by simp; omega
        obtain ⟨z, hz⟩ : ∃ z, L[m]? = some z := ⟨_, List.getElem?_eq_getElem hml⟩
        have HZz := Lib.hid hz
        have HZo := Lib.hid (HO.out.ok z (List.mem_of_getElem? hz))
        have iz := HO.out.ix hml c
        simp only [Nat.zero_add] at iz
        clear hz
        cases h1 : (z.o.R == x.o.R)
        · have HTW := Lib.hid (show twiceB x L = false by rw [twice_some (z := z) (by rw [HPOS.out]; exact HZz.out)]; unfold sameI; rw [h1]; rfl)
          have qb := cell_regrown (show wy.cell? ⟨p, 0, none⟩ = some (.slice A L.length c) by rw [cell_of_row _ _ _ _ _ _ ((hS.below.block p HP.out).trans HBF.out.at_)]; rfl)
          have xi := Lib.hid (cells_regrown (w := wy) (b := w.heap.size) (i := 0) (cs := #[.int .i64 x.o.R, .int .i64 x.o.N]) (fun j v hv => (cell_of_row _ _ _ _ _ _ (hS.at_ 0 rfl)).trans (OpV.pId j v hv)))
          have zi := Lib.hid (cells_regrown (w := wy) (b := g) (i := m * 79) (cs := #[.int .i64 z.o.R, .int .i64 z.o.N]) (fun j v hv => by
            have := (HO.out.move hS.below).c m z HZz.out j v (by have := OpV.pId (o := z.o) j v hv; rwa [Nat.zero_add] at this)
            rwa [Nat.zero_add] at this))
          refine wp_region_quiet_below (by kernel_rfl) (by kernel_rfl) ?_
          repeat (first | go_big_quiet_skip | (refine BigFrame.wpQuiet_want rfl (fun K hK => ?_); refine quiet_load_cells 31 (.tmp 43) rfl _ _ rfl _ _ zi.out Tryz.underlying31 rfl (id_info _ _) ?_; refine hK _ ?_; clear hK K) | (refine BigFrame.wpQuiet_want rfl (fun K hK => ?_); refine quiet_load_cells 31 (.tmp 45) rfl _ _ rfl _ _ xi.out Tryz.underlying31 rfl (id_info _ _) ?_; refine hK _ ?_; clear hK K) | (quiet_step (fail)))
          refine wpQuiet_nil ?_; rintro wz ⟨⟨dq, osq⟩, rfl⟩; have hbn := below_regrown wy dq osq; generalize Go.Sort.grow (redrawn wy dq) osq = wz at *
          have hS1 := hS.step hbn; clear hS hbn; have hS := hS1; clear hS1
          clear qb xi zi
          rename World => wx
          have cb : wx.cell? ⟨p, 0, none⟩ = some (.slice A L.length c) := by rw [cell_of_row _ _ _ _ _ _ ((hS.below.block p HP.out).trans HBF.out.at_)]; rfl
          by_cases hfull : L.length = 256
          · have hfb : ((L.length : Int) == 256) = true := by rw [beq_iff_eq]; omega
            have HFU := Lib.hid hfull
            clear hfull
            go_wp2_with go_skip
            go_ret
            unfold WaitPost
            exact ⟨10, L, A, c, rfl, .inr (.inl ⟨HTW.out, HFU.out, rfl, rfl⟩), ⟨(hS.below.block p HP.out).trans HBF.out.at_, HBF.out.row.move hS.below, HBF.out.ap, HBF.out.b⟩, ButS.of_below hS.below, .inl rfl⟩
          · have hfb : ((L.length : Int) == 256) = false := by rw [beq_eq_false_iff_ne]; omega
            go_wp2_with go_skip
            go_meet
            case rel => exact ⟨HTW.out, hfull, hS⟩
        · cases h2 : (z.o.N == x.o.N)
          · have HTW := Lib.hid (show twiceB x L = false by rw [twice_some (z := z) (by rw [HPOS.out]; exact HZz.out)]; unfold sameI; rw [h1, h2]; rfl)
            have qb := cell_regrown (show wy.cell? ⟨p, 0, none⟩ = some (.slice A L.length c) by rw [cell_of_row _ _ _ _ _ _ ((hS.below.block p HP.out).trans HBF.out.at_)]; rfl)
            have xi := Lib.hid (cells_regrown (w := wy) (b := w.heap.size) (i := 0) (cs := #[.int .i64 x.o.R, .int .i64 x.o.N]) (fun j v hv => (cell_of_row _ _ _ _ _ _ (hS.at_ 0 rfl)).trans (OpV.pId j v hv)))
            have zi := Lib.hid (cells_regrown (w := wy) (b := g) (i := m * 79) (cs := #[.int .i64 z.o.R, .int .i64 z.o.N]) (fun j v hv => by
              have := (HO.out.move hS.below).c m z HZz.out j v (by have := OpV.pId (o := z.o) j v hv; rwa [Nat.zero_add] at this)
              rwa [Nat.zero_add] at this))
            refine wp_region_quiet_below (by kernel_rfl) (by kernel_rfl) ?_
            repeat (first | go_big_quiet_skip | (refine BigFrame.wpQuiet_want rfl (fun K hK => ?_); refine quiet_load_cells 31 (.tmp 43) rfl _ _ rfl _ _ zi.out Tryz.underlying31 rfl (id_info _ _) ?_; refine hK _ ?_; clear hK K) | (refine BigFrame.wpQuiet_want rfl (fun K hK => ?_); refine quiet_load_cells 31 (.tmp 45) rfl _ _ rfl _ _ xi.out Tryz.underlying31 rfl (id_info _ _) ?_; refine hK _ ?_; clear hK K) | (quiet_step (fail)))
            refine wpQuiet_nil ?_; rintro wz ⟨⟨dq, osq⟩, rfl⟩; have hbn := below_regrown wy dq osq; generalize Go.Sort.grow (redrawn wy dq) osq = wz at *
            have hS1 := hS.step hbn; clear hS hbn; have hS := hS1; clear hS1
            clear qb xi zi
            rename World => wx
            have cb : wx.cell? ⟨p, 0, none⟩ = some (.slice A L.length c) := by rw [cell_of_row _ _ _ _ _ _ ((hS.below.block p HP.out).trans HBF.out.at_)]; rfl
            by_cases hfull : L.length = 256
            · have hfb : ((L.length : Int) == 256) = true := by rw [beq_iff_eq]; omega
              have HFU := Lib.hid hfull
              clear hfull
              go_wp2_with go_skip
              go_ret
              unfold WaitPost
              exact ⟨10, L, A, c, rfl, .inr (.inl ⟨HTW.out, HFU.out, rfl, rfl⟩), ⟨(hS.below.block p HP.out).trans HBF.out.at_, HBF.out.row.move hS.below, HBF.out.ap, HBF.out.b⟩, ButS.of_below hS.below, .inl rfl⟩
            · have hfb : ((L.length : Int) == 256) = false := by rw [beq_eq_false_iff_ne]; omega
              go_wp2_with go_skip
              go_meet
              case rel => exact ⟨HTW.out, hfull, hS⟩
          · have HTW := Lib.hid (show twiceB x L = true by rw [twice_some (z := z) (by rw [HPOS.out]; exact HZz.out)]; unfold sameI; rw [h1, h2]; rfl)
            have qb := cell_regrown (show wy.cell? ⟨p, 0, none⟩ = some (.slice A L.length c) by rw [cell_of_row _ _ _ _ _ _ ((hS.below.block p HP.out).trans HBF.out.at_)]; rfl)
            have xi := Lib.hid (cells_regrown (w := wy) (b := w.heap.size) (i := 0) (cs := #[.int .i64 x.o.R, .int .i64 x.o.N]) (fun j v hv => (cell_of_row _ _ _ _ _ _ (hS.at_ 0 rfl)).trans (OpV.pId j v hv)))
            have zi := Lib.hid (cells_regrown (w := wy) (b := g) (i := m * 79) (cs := #[.int .i64 z.o.R, .int .i64 z.o.N]) (fun j v hv => by
              have := (HO.out.move hS.below).c m z HZz.out j v (by have := OpV.pId (o := z.o) j v hv; rwa [Nat.zero_add] at this)
              rwa [Nat.zero_add] at this))
            refine wp_region_quiet_below (by kernel_rfl) (by kernel_rfl) ?_
            repeat (first | go_big_quiet_skip | (refine BigFrame.wpQuiet_want rfl (fun K hK => ?_); refine quiet_load_cells 31 (.tmp 43) rfl _ _ rfl _ _ zi.out Tryz.underlying31 rfl (id_info _ _) ?_; refine hK _ ?_; clear hK K) | (refine BigFrame.wpQuiet_want rfl (fun K hK => ?_); refine quiet_load_cells 31 (.tmp 45) rfl _ _ rfl _ _ xi.out Tryz.underlying31 rfl (id_info _ _) ?_; refine hK _ ?_; clear hK K) | (quiet_step (fail)))
            refine wpQuiet_nil ?_; rintro wz ⟨⟨dq, osq⟩, rfl⟩; have hbn := below_regrown wy dq osq; generalize Go.Sort.grow (redrawn wy dq) osq = wz at *
            have hS1 := hS.step hbn; clear hS hbn; have hS := hS1; clear hS1
            clear qb xi zi
            go_wp2_with go_skip
            go_ret
            unfold WaitPost
            exact ⟨5, L, A, c, rfl, .inl ⟨HTW.out, rfl, rfl⟩, ⟨(hS.below.block p HP.out).trans HBF.out.at_, HBF.out.row.move hS.below, HBF.out.ap, HBF.out.b⟩, ButS.of_below hS.below, .inl rfl⟩
      · have hmlb : decide ((m : Int) < L.length) = false := by simp; omega
        obtain rfl : m = L.length := by omega
        have HTW := Lib.hid (show twiceB x L = false by unfold twiceB; rw [HPOS.out, List.getElem?_eq_none (Nat.le_refl _)])
        have qb := cell_regrown (show wy.cell? ⟨p, 0, none⟩ = some (.slice A L.length c) by rw [cell_of_row _ _ _ _ _ _ ((hS.below.block p HP.out).trans HBF.out.at_)]; rfl)
        refine wp_region_quiet_below (by kernel_rfl) (by kernel_rfl) ?_
        repeat (first | go_big_quiet_skip | (quiet_step (fail)))
        refine wpQuiet_nil ?_; rintro wz ⟨⟨dq, osq⟩, rfl⟩; have hbn := below_regrown wy dq osq; generalize Go.Sort.grow (redrawn wy dq) osq = wz at *
        have hS1 := hS.step hbn; clear hS hbn; have hS := hS1; clear hS1
        clear qb
        rename World => wx
        have cb : wx.cell? ⟨p, 0, none⟩ = some (.slice A L.length c) := by rw [cell_of_row _ _ _ _ _ _ ((hS.below.block p HP.out).trans HBF.out.at_)]; rfl
        by_cases hfull : L.length = 256
        · have hfb : ((L.length : Int) == 256) = true := by rw [beq_iff_eq]; omega
          have HFU := Lib.hid hfull
          clear hfull
          go_wp2_with go_skip
          go_ret
          unfold WaitPost
          exact ⟨10, L, A, c, rfl, .inr (.inl ⟨HTW.out, HFU.out, rfl, rfl⟩), ⟨(hS.below.block p HP.out).trans HBF.out.at_, HBF.out.row.move hS.below, HBF.out.ap, HBF.out.b⟩, ButS.of_below hS.below, .inl rfl⟩
        · have hfb : ((L.length : Int) == 256) = false := by rw [beq_eq_false_iff_ne]; omega
          go_wp2_with go_skip
          go_meet
          case rel => exact ⟨HTW.out, hfull, hS⟩
    case rest =>
      clear hS
      obtain ⟨htw, hfull, hS⟩ := hcut
      have HTW := Lib.hid htw
      clear htw
      rename World => wx
      have cb : wx.cell? ⟨p, 0, none⟩ = some (.slice A L.length c) := by rw [cell_of_row _ _ _ _ _ _ ((hS.below.block p HP.out).trans HBF.out.at_)]; rfl
      go_upto_region 8 with go_skip
      have qb := cell_regrown cb
      have r3 := hS.at_ 0 rfl
      have HSx := Lib.hid hS.below
      have hpx : p < wx.heap.size := Nat.lt_of_lt_of_le HP.out hS.below.size
      have HRx := Lib.hid (HBF.out.row.move hS.below)
      refine wp_region_three bw8 (by kernel_rfl) 7 (by kernel_rfl) (by kernel_rfl) (by kernel_rfl) (by decide) (by kernel_rfl) (by kernel_rfl) (by kernel_rfl) (by kernel_rfl) (by kernel_rfl) (by kernel_rfl)
        (fun v _ => ∃ y : OT, v = opv y.o ∧ OT.Ok y ∧ OT.Same x y) (fun v u W => ∃ (y : OT) (vb : Nat), v = opv y.o ∧ OT.Ok y ∧ OT.Same x y ∧ u = .slice (some ⟨vb, 0, none⟩) 1 1 ∧ wx.heap.size ≤ vb ∧ W.heap[vb]? = some (.cells y.o.c 40 (0, 0)))
        (fun v W => ∃ (y : OT) (A' : Option Addr) (c' : Nat), OT.Ok y ∧ OT.Same x y ∧ v = .slice A' (L.length + 1) c' ∧ RowW w0 W (.slice A' (L.length + 1) c') (insO m y L) ∧ ButS (ownL (.slice A L.length c)) wx W ∧ ((Value.slice A' (L.length + 1) c').ownBlock = (Value.slice A L.length c).ownBlock ∨ ∃ k, (Value.slice A' (L.length + 1) c').ownBlock = some k ∧ wx.heap.size ≤ k))
        (fun v W W' h _ => h) (fun v u W W' ⟨y, vb, h1, h2, h3, h4, h5, h6⟩ hb => ⟨y, vb, h1, h2, h3, h4, h5, (hb.block vb (Array.getElem?_eq_some_iff.1 h6).1).trans h6⟩) ?_
      simp only [List.take_succ_cons, List.take_zero]
      repeat (first | go_big_quiet_skip | (refine BigFrame.wpQuiet_want rfl (fun K hK => ?_); refine quiet_load_row 40 (.tmp 3) rfl _ rfl 40 _ (0, 0) _ (row_regrown r3) Tryz.underlying40 rfl (op_info _ hxs) ?_; refine hK _ ?_; clear hK K) | (quiet_step (fail)))
      refine wpQuiet_nil ?_
      intro o1 o2 o3 e1 e2 e3
      simp only [List.getElem?_toArray, List.getElem?_cons_succ, List.getElem?_cons_zero, Option.some.injEq] at e1 e2 e3
      subst e1 e2 e3
      refine ⟨⟨rfl, rfl, rfl⟩, ?_, ?_, ?_, ?_⟩
      · intro W hW
        exact gives_call_ex #[.tmp 62] #[40] rfl (f := 30) Tryz.func30 (by kernel_rfl) rfl #[opv x.o] (one_arg rfl) ((oCopy_any x W HX.out).mono fun e w' ⟨y, he, hy, hsy, hb⟩ => ⟨_, he, hb, y, rfl, hy, hsy⟩)
      · rintro v W hW ⟨y, rfl, hy, hsy⟩
        exact gives_slice 49 1 #[(0, .tmp 63)] rfl #[(0, .agg y.o.c)] (by simp only [List.map_toArray, List.map_cons, List.map_nil]; rfl) y.o.c 40 (build_op1 y.o.c (OpV.size hy.seen) W) ⟨Below.alloc (Below.refl _ _) (Nat.le_refl _) _, y, W.heap.size, rfl, hy, hsy, rfl, hW.size, heap_alloc_new _ _⟩
      · rintro v u W hW ⟨y, vb, rfl, hy, hsy, rfl, hvb, hv⟩
        have hne : (Value.slice A L.length c).ownBlock ≠ some vb := fun e => by have := (owns_base HRx.out.own e).2; omega
        exact gives_call_ex #[.tmp 60, .tmp 61, .tmp 64] #[49, 3, 49] rfl (f := 49) Tryz.func49 (by kernel_rfl) rfl #[.slice A L.length c, .int .i64 m, .slice (some ⟨vb, 0, none⟩) 1 1] (by simp only [List.map_toArray, List.map_cons, List.map_nil]; rfl) ((insOp_any A c L y vb w0 W (HRx.out.move hW) hy hv hne (by omega) (Nat.le_trans HW.out (Nat.le_trans HSx.out.size hW.size)) m hm).mono fun e w' ⟨A', c', he, hr, hg, hat⟩ => ⟨_, he, y, A', c', hy, hsy, rfl, hr, ⟨hg.os.trans hW.os, hg.tape.trans hW.tape, hg.output.trans hW.output, Nat.le_trans hW.size hg.size, fun k hk hn => (hg.block k (Nat.lt_of_lt_of_le hk hW.size) (fun e => hn (by unfold ownL; rw [← e]; simp))).trans (hW.block k hk)⟩, by rcases hat with h | h; exact .inl h; exact .inr ⟨_, h, hW.size⟩⟩)
      rintro v u z0 W ⟨y, A', c', hy, hsy, rfl, hr, hbs, hat⟩
      have HR := Lib.hid hr
      have HBS := Lib.hid hbs
      have HAT := Lib.hid hat
      have hpo : p ∉ ownL (Value.slice A L.length c) := fun h => HBF.out.ap (by unfold ownL at h; exact Option.mem_toList.1 h)
      have hpW : W.heap[p]? = some (bufO (.slice A L.length c)) := (hbs.block p hpx hpo).trans ((hS.below.block p HP.out).trans HBF.out.at_)
      have hap : (Value.slice A' (L.length + 1) c').ownBlock ≠ some p := fun e => by
        rcases hat with h | ⟨k, h, hk⟩
        · exact HBF.out.ap (h.symm.trans e)
        · rw [e] at h; obtain rfl := Option.some.inj h; omega
      have HAP := Lib.hid hap
      clear hr hbs hat qb r3 cb hap
      simp only [List.drop_succ_cons, List.drop_zero, Act.put, List.setIfInBounds_toArray, List.set_cons_zero, List.set_cons_succ]
      go_wp2_with (first | ((with_reducible refine gate_op (op := .store 49 (.tmp 67) (.tmp 65)) rfl ?_); refine store_elem rfl 49 (.tmp 67) (.tmp 65) rfl p 0 (.slice A' (L.length + 1) c') rfl rfl rfl 66 _ _ hpW rfl (by kernel_rfl) ?_; intro wn hgn hon hbn hsn) | go_skip)
      go_ret
      have hl := insO_len hm y
      unfold WaitPost
      refine ⟨0, insO m y L, A', c', rfl, .inr (.inr ⟨HTW.out, hfull, rfl, y, hy, hsy, by rw [HPOS.out]⟩), ⟨by rw [hl]; exact hgn, by rw [hl]; exact HR.out.keep (fun k hk _ => hon k (fun e => HAP.out (by rw [← e]; exact hk))), by rw [hl]; exact HAP.out, HBF.out.b⟩, ?_, ?_⟩
      · exact (((ButS.of_below HSx.out).then' HBS.out (fun k hk => List.mem_cons_of_mem _ hk))).put hon hbn (.inl (List.mem_cons_self ..))
      · rw [hl]
        rcases HAT.out with h | ⟨k, h, hk⟩
        · exact .inl h
        · exact .inr ⟨k, h, Nat.le_trans HSx.out.size hk⟩
end
end Go.Proofs.YtffcpmohanhihaaGreatDoor
