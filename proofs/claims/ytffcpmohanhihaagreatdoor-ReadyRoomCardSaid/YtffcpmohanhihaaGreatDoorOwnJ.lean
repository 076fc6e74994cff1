/-
  value.own tells what is written here, for all trees. Condition: what dec.Int, dec.Good, letters, stamp tell of the value's text is known, where they are asked.
-/
import Derived.Test.YtffcpmohanhihaaGreatDoorJ11
namespace Go.Proofs.YtffcpmohanhihaaGreatDoor
open Go.RowKit
set_option linter.unusedVariables false
set_option linter.unusedSimpArgs false
set_option linter.unusedSectionVars false
def ownB (t : VT) (ib gb lb sb : Bool) : Bool :=
  if t.k == 0 then t.n == 0 && t.s.toList.isEmpty && t.ln == 0 && t.mn == 0
  else if t.k == 1 then (t.n == 0 || t.n == 1) && t.s.toList.isEmpty && t.ln == 0 && t.mn == 0
  else if t.k == 2 then t.s.toList.isEmpty && t.ln == 0 && t.mn == 0
  else if t.k == 5 then t.n == 0 && t.s.toList.isEmpty && t.mn == 0
  else if t.k == 6 then t.n == 0 && t.s.toList.isEmpty && t.ln == 0
  else if !(t.n == 0) || !(t.ln == 0) || !(t.mn == 0) then false
  else if t.k == 3 then gb && !ib
  else if t.k == 4 then lb
  else if t.k == 7 then sb
  else false
section
variable (t : VT) (ib gb lb sb : Bool) (w : World)
  (HI : Hid (t.k = 3 → ∀ W, Below w.heap.size w W → Calls Tryz.prog 144 #[.string t.s] W fun e w' => (∃ r, e = .returned (.tuple #[.int .i64 r, .bool ib])) ∧ Below W.heap.size W w'))
  (HG : Hid (t.k = 3 → ∀ W, Below w.heap.size w W → Calls Tryz.prog 145 #[.string t.s] W fun e w' => e = .returned (.bool gb) ∧ Below W.heap.size W w'))
  (HL : Hid (t.k = 4 → ∀ W, Below w.heap.size w W → Calls Tryz.prog 127 #[.string t.s] W fun e w' => (∃ r, e = .returned (.int .i64 r) ∧ (r == 0) = lb) ∧ Below W.heap.size W w'))
  (HS : Hid (t.k = 7 → ∀ W, Below w.heap.size w W → Calls Tryz.prog 146 #[.string t.s] W fun e w' => e = .returned (.bool sb) ∧ Below W.heap.size W w'))
include HI HG HL HS
omit HI HG HL HS in
theorem dec_l {n : Nat} {l : Bool} (h : (n == 0) = l) : decide ((0 : Int) < n) = !l ∧ decide (0 < n) = !l := by
  subst h
  cases n <;> simp <;> omega
/-- The tests' facts, as the walk spells them. -/
def Fx (t : VT) (e l m : Bool) : Prop := t.s.toList.isEmpty = e ∧ (t.ln == 0) = l ∧ (t.mn == 0) = m
-- CASES
set_option maxRecDepth 100000 in
set_option maxHeartbeats 1000000 in
theorem own_0ae (h0 : (t.k == 0) = true) (hn : (t.n == 0) = true) (l m : Bool) (hx : Fx t false l m) : Calls Tryz.prog 126 #[.agg t.c] w fun e w' => e = .returned (.bool (ownB t ib gb lb sb)) ∧ Below w.heap.size w w' := by
  have hh : Hid (ownB t ib gb lb sb = false) := by unfold Hid ownB; rw [hx.1, hx.2.1, hx.2.2]; simp [h0, hn]
  have he : t.s.toList.isEmpty = false := hx.1
  have he2 : (t.s.toList == []) = false := by have := hx.1; cases hq : t.s.toList <;> simp_all
  have hl2 : decide ((0 : Int) < t.ln) = (!l) := (dec_l hx.2.1).1
  have hl3 : decide (0 < t.ln) = (!l) := (dec_l hx.2.1).2
  have hm2 : decide ((0 : Int) < t.mn) = (!m) := (dec_l hx.2.2).1
  have hm3 : decide (0 < t.mn) = (!m) := (dec_l hx.2.2).2
  clear hx
  skip
  have hS : Sees w (w.alloc (Obj.cells t.c 38)) [(w.heap.size, Obj.cells t.c 38)] := (Sees.start w).alloc _
  have c0 : (w.alloc (Obj.cells t.c 38)).cell? ⟨w.heap.size, 0, none⟩ = some (.int .i64 t.k) := cell_of_row _ _ _ _ _ _ hS.g0
  have c1 : (w.alloc (Obj.cells t.c 38)).cell? ⟨w.heap.size, 1, none⟩ = some (.int .i64 t.n) := cell_of_row _ _ _ _ _ _ hS.g0
  have c2 : (w.alloc (Obj.cells t.c 38)).cell? ⟨w.heap.size, 2, none⟩ = some (.string t.s) := cell_of_row _ _ _ _ _ _ hS.g0
  have c3 : (w.alloc (Obj.cells t.c 38)).cell? ⟨w.heap.size, 3, none⟩ = some (.slice t.lA t.ln t.lc) := cell_of_row _ _ _ _ _ _ hS.g0
  have c4 : (w.alloc (Obj.cells t.c 38)).cell? ⟨w.heap.size, 4, none⟩ = some (.slice t.mA t.mn t.mc) := cell_of_row _ _ _ _ _ _ hS.g0
  go_enter Tryz.func126, Tryz.ntmps126
  go_wp2_with fail
  generalize w.alloc (Obj.cells t.c 38) = W at *
  have k2 := cell_regrown c2
  have k3 := cell_regrown c3
  have k4 := cell_regrown c4
  refine wp_region_quiet_below (by kernel_rfl) (by kernel_rfl) ?_
  repeat (first | go_big_quiet_step (fail) | quiet_step (fail))
  refine wpQuiet_nil ?_; rintro wq ⟨⟨dq, osq⟩, rfl⟩; have hbq := below_regrown W dq osq; generalize Go.Sort.grow (redrawn W dq) osq = wq at *
  have hS := hS.step hbq
  clear c0 c1 c2 c3 c4 k2 k3 k4
  have c0 : wq.cell? ⟨w.heap.size, 0, none⟩ = some (.int .i64 t.k) := cell_of_row _ _ _ _ _ _ hS.g0
  have c1 : wq.cell? ⟨w.heap.size, 1, none⟩ = some (.int .i64 t.n) := cell_of_row _ _ _ _ _ _ hS.g0
  have c2 : wq.cell? ⟨w.heap.size, 2, none⟩ = some (.string t.s) := cell_of_row _ _ _ _ _ _ hS.g0
  go_wp2_with fail
  go_ret
  exact ⟨ret_bool hh.out.symm, hS.below⟩
set_option maxRecDepth 100000 in
set_option maxHeartbeats 1000000 in
theorem own_0al (h0 : (t.k == 0) = true) (hn : (t.n == 0) = true) (m : Bool) (hx : Fx t true false m) : Calls Tryz.prog 126 #[.agg t.c] w fun e w' => e = .returned (.bool (ownB t ib gb lb sb)) ∧ Below w.heap.size w w' := by
  have hh : Hid (ownB t ib gb lb sb = false) := by unfold Hid ownB; rw [hx.1, hx.2.1, hx.2.2]; simp [h0, hn]
  have he : t.s.toList.isEmpty = true := hx.1
  have he2 : (t.s.toList == []) = true := by have := hx.1; cases hq : t.s.toList <;> simp_all
  have hl2 : decide ((0 : Int) < t.ln) = (!false) := (dec_l hx.2.1).1
  have hl3 : decide (0 < t.ln) = (!false) := (dec_l hx.2.1).2
  have hm2 : decide ((0 : Int) < t.mn) = (!m) := (dec_l hx.2.2).1
  have hm3 : decide (0 < t.mn) = (!m) := (dec_l hx.2.2).2
  clear hx
  skip
  have hS : Sees w (w.alloc (Obj.cells t.c 38)) [(w.heap.size, Obj.cells t.c 38)] := (Sees.start w).alloc _
  have c0 : (w.alloc (Obj.cells t.c 38)).cell? ⟨w.heap.size, 0, none⟩ = some (.int .i64 t.k) := cell_of_row _ _ _ _ _ _ hS.g0
  have c1 : (w.alloc (Obj.cells t.c 38)).cell? ⟨w.heap.size, 1, none⟩ = some (.int .i64 t.n) := cell_of_row _ _ _ _ _ _ hS.g0
  have c2 : (w.alloc (Obj.cells t.c 38)).cell? ⟨w.heap.size, 2, none⟩ = some (.string t.s) := cell_of_row _ _ _ _ _ _ hS.g0
  have c3 : (w.alloc (Obj.cells t.c 38)).cell? ⟨w.heap.size, 3, none⟩ = some (.slice t.lA t.ln t.lc) := cell_of_row _ _ _ _ _ _ hS.g0
  have c4 : (w.alloc (Obj.cells t.c 38)).cell? ⟨w.heap.size, 4, none⟩ = some (.slice t.mA t.mn t.mc) := cell_of_row _ _ _ _ _ _ hS.g0
  go_enter Tryz.func126, Tryz.ntmps126
  go_wp2_with fail
  generalize w.alloc (Obj.cells t.c 38) = W at *
  have k2 := cell_regrown c2
  have k3 := cell_regrown c3
  have k4 := cell_regrown c4
  refine wp_region_quiet_below (by kernel_rfl) (by kernel_rfl) ?_
  repeat (first | go_big_quiet_step (fail) | quiet_step (fail))
  refine wpQuiet_nil ?_; rintro wq ⟨⟨dq, osq⟩, rfl⟩; have hbq := below_regrown W dq osq; generalize Go.Sort.grow (redrawn W dq) osq = wq at *
  have hS := hS.step hbq
  clear c0 c1 c2 c3 c4 k2 k3 k4
  have c0 : wq.cell? ⟨w.heap.size, 0, none⟩ = some (.int .i64 t.k) := cell_of_row _ _ _ _ _ _ hS.g0
  have c1 : wq.cell? ⟨w.heap.size, 1, none⟩ = some (.int .i64 t.n) := cell_of_row _ _ _ _ _ _ hS.g0
  have c2 : wq.cell? ⟨w.heap.size, 2, none⟩ = some (.string t.s) := cell_of_row _ _ _ _ _ _ hS.g0
  go_wp2_with fail
  go_ret
  exact ⟨ret_bool hh.out.symm, hS.below⟩
set_option maxRecDepth 100000 in
set_option maxHeartbeats 1000000 in
theorem own_0am (h0 : (t.k == 0) = true) (hn : (t.n == 0) = true) (hx : Fx t true true false) : Calls Tryz.prog 126 #[.agg t.c] w fun e w' => e = .returned (.bool (ownB t ib gb lb sb)) ∧ Below w.heap.size w w' := by
  have hh : Hid (ownB t ib gb lb sb = false) := by unfold Hid ownB; rw [hx.1, hx.2.1, hx.2.2]; simp [h0, hn]
  have he : t.s.toList.isEmpty = true := hx.1
  have he2 : (t.s.toList == []) = true := by have := hx.1; cases hq : t.s.toList <;> simp_all
  have hl2 : decide ((0 : Int) < t.ln) = (!true) := (dec_l hx.2.1).1
  have hl3 : decide (0 < t.ln) = (!true) := (dec_l hx.2.1).2
  have hm2 : decide ((0 : Int) < t.mn) = (!false) := (dec_l hx.2.2).1
  have hm3 : decide (0 < t.mn) = (!false) := (dec_l hx.2.2).2
  clear hx
  skip
  have hS : Sees w (w.alloc (Obj.cells t.c 38)) [(w.heap.size, Obj.cells t.c 38)] := (Sees.start w).alloc _
  have c0 : (w.alloc (Obj.cells t.c 38)).cell? ⟨w.heap.size, 0, none⟩ = some (.int .i64 t.k) := cell_of_row _ _ _ _ _ _ hS.g0
  have c1 : (w.alloc (Obj.cells t.c 38)).cell? ⟨w.heap.size, 1, none⟩ = some (.int .i64 t.n) := cell_of_row _ _ _ _ _ _ hS.g0
  have c2 : (w.alloc (Obj.cells t.c 38)).cell? ⟨w.heap.size, 2, none⟩ = some (.string t.s) := cell_of_row _ _ _ _ _ _ hS.g0
  have c3 : (w.alloc (Obj.cells t.c 38)).cell? ⟨w.heap.size, 3, none⟩ = some (.slice t.lA t.ln t.lc) := cell_of_row _ _ _ _ _ _ hS.g0
  have c4 : (w.alloc (Obj.cells t.c 38)).cell? ⟨w.heap.size, 4, none⟩ = some (.slice t.mA t.mn t.mc) := cell_of_row _ _ _ _ _ _ hS.g0
  go_enter Tryz.func126, Tryz.ntmps126
  go_wp2_with fail
  generalize w.alloc (Obj.cells t.c 38) = W at *
  have k2 := cell_regrown c2
  have k3 := cell_regrown c3
  have k4 := cell_regrown c4
  refine wp_region_quiet_below (by kernel_rfl) (by kernel_rfl) ?_
  repeat (first | go_big_quiet_step (fail) | quiet_step (fail))
  refine wpQuiet_nil ?_; rintro wq ⟨⟨dq, osq⟩, rfl⟩; have hbq := below_regrown W dq osq; generalize Go.Sort.grow (redrawn W dq) osq = wq at *
  have hS := hS.step hbq
  clear c0 c1 c2 c3 c4 k2 k3 k4
  have c0 : wq.cell? ⟨w.heap.size, 0, none⟩ = some (.int .i64 t.k) := cell_of_row _ _ _ _ _ _ hS.g0
  have c1 : wq.cell? ⟨w.heap.size, 1, none⟩ = some (.int .i64 t.n) := cell_of_row _ _ _ _ _ _ hS.g0
  have c2 : wq.cell? ⟨w.heap.size, 2, none⟩ = some (.string t.s) := cell_of_row _ _ _ _ _ _ hS.g0
  go_wp2_with fail
  go_ret
  exact ⟨ret_bool hh.out.symm, hS.below⟩
set_option maxRecDepth 100000 in
set_option maxHeartbeats 1000000 in
theorem own_0at (h0 : (t.k == 0) = true) (hn : (t.n == 0) = true) (hx : Fx t true true true) : Calls Tryz.prog 126 #[.agg t.c] w fun e w' => e = .returned (.bool (ownB t ib gb lb sb)) ∧ Below w.heap.size w w' := by
  have hh : Hid (ownB t ib gb lb sb = true) := by unfold Hid ownB; rw [hx.1, hx.2.1, hx.2.2]; simp [h0, hn]
  have he : t.s.toList.isEmpty = true := hx.1
  have he2 : (t.s.toList == []) = true := by have := hx.1; cases hq : t.s.toList <;> simp_all
  have hl2 : decide ((0 : Int) < t.ln) = (!true) := (dec_l hx.2.1).1
  have hl3 : decide (0 < t.ln) = (!true) := (dec_l hx.2.1).2
  have hm2 : decide ((0 : Int) < t.mn) = (!true) := (dec_l hx.2.2).1
  have hm3 : decide (0 < t.mn) = (!true) := (dec_l hx.2.2).2
  clear hx
  skip
  have hS : Sees w (w.alloc (Obj.cells t.c 38)) [(w.heap.size, Obj.cells t.c 38)] := (Sees.start w).alloc _
  have c0 : (w.alloc (Obj.cells t.c 38)).cell? ⟨w.heap.size, 0, none⟩ = some (.int .i64 t.k) := cell_of_row _ _ _ _ _ _ hS.g0
  have c1 : (w.alloc (Obj.cells t.c 38)).cell? ⟨w.heap.size, 1, none⟩ = some (.int .i64 t.n) := cell_of_row _ _ _ _ _ _ hS.g0
  have c2 : (w.alloc (Obj.cells t.c 38)).cell? ⟨w.heap.size, 2, none⟩ = some (.string t.s) := cell_of_row _ _ _ _ _ _ hS.g0
  have c3 : (w.alloc (Obj.cells t.c 38)).cell? ⟨w.heap.size, 3, none⟩ = some (.slice t.lA t.ln t.lc) := cell_of_row _ _ _ _ _ _ hS.g0
  have c4 : (w.alloc (Obj.cells t.c 38)).cell? ⟨w.heap.size, 4, none⟩ = some (.slice t.mA t.mn t.mc) := cell_of_row _ _ _ _ _ _ hS.g0
  go_enter Tryz.func126, Tryz.ntmps126
  go_wp2_with fail
  generalize w.alloc (Obj.cells t.c 38) = W at *
  have k2 := cell_regrown c2
  have k3 := cell_regrown c3
  have k4 := cell_regrown c4
  refine wp_region_quiet_below (by kernel_rfl) (by kernel_rfl) ?_
  repeat (first | go_big_quiet_step (fail) | quiet_step (fail))
  refine wpQuiet_nil ?_; rintro wq ⟨⟨dq, osq⟩, rfl⟩; have hbq := below_regrown W dq osq; generalize Go.Sort.grow (redrawn W dq) osq = wq at *
  have hS := hS.step hbq
  clear c0 c1 c2 c3 c4 k2 k3 k4
  have c0 : wq.cell? ⟨w.heap.size, 0, none⟩ = some (.int .i64 t.k) := cell_of_row _ _ _ _ _ _ hS.g0
  have c1 : wq.cell? ⟨w.heap.size, 1, none⟩ = some (.int .i64 t.n) := cell_of_row _ _ _ _ _ _ hS.g0
  have c2 : wq.cell? ⟨w.heap.size, 2, none⟩ = some (.string t.s) := cell_of_row _ _ _ _ _ _ hS.g0
  go_wp2_with fail
  go_ret
  exact ⟨ret_bool hh.out.symm, hS.below⟩
set_option maxRecDepth 100000 in
set_option maxHeartbeats 1000000 in
theorem own_0n (h0 : (t.k == 0) = true) (hn : (t.n == 0) = false) (e l m : Bool) (hx : Fx t e l m) : Calls Tryz.prog 126 #[.agg t.c] w fun e w' => e = .returned (.bool (ownB t ib gb lb sb)) ∧ Below w.heap.size w w' := by
  have hh : Hid (ownB t ib gb lb sb = false) := by unfold Hid ownB; rw [hx.1, hx.2.1, hx.2.2]; simp [h0, hn]
  have he : t.s.toList.isEmpty = e := hx.1
  have he2 : (t.s.toList == []) = e := by have := hx.1; cases hq : t.s.toList <;> simp_all
  have hl2 : decide ((0 : Int) < t.ln) = (!l) := (dec_l hx.2.1).1
  have hl3 : decide (0 < t.ln) = (!l) := (dec_l hx.2.1).2
  have hm2 : decide ((0 : Int) < t.mn) = (!m) := (dec_l hx.2.2).1
  have hm3 : decide (0 < t.mn) = (!m) := (dec_l hx.2.2).2
  clear hx
  skip
  have hS : Sees w (w.alloc (Obj.cells t.c 38)) [(w.heap.size, Obj.cells t.c 38)] := (Sees.start w).alloc _
  have c0 : (w.alloc (Obj.cells t.c 38)).cell? ⟨w.heap.size, 0, none⟩ = some (.int .i64 t.k) := cell_of_row _ _ _ _ _ _ hS.g0
  have c1 : (w.alloc (Obj.cells t.c 38)).cell? ⟨w.heap.size, 1, none⟩ = some (.int .i64 t.n) := cell_of_row _ _ _ _ _ _ hS.g0
  have c2 : (w.alloc (Obj.cells t.c 38)).cell? ⟨w.heap.size, 2, none⟩ = some (.string t.s) := cell_of_row _ _ _ _ _ _ hS.g0
  have c3 : (w.alloc (Obj.cells t.c 38)).cell? ⟨w.heap.size, 3, none⟩ = some (.slice t.lA t.ln t.lc) := cell_of_row _ _ _ _ _ _ hS.g0
  have c4 : (w.alloc (Obj.cells t.c 38)).cell? ⟨w.heap.size, 4, none⟩ = some (.slice t.mA t.mn t.mc) := cell_of_row _ _ _ _ _ _ hS.g0
  go_enter Tryz.func126, Tryz.ntmps126
  go_wp2_with fail
  generalize w.alloc (Obj.cells t.c 38) = W at *
  have k2 := cell_regrown c2
  have k3 := cell_regrown c3
  have k4 := cell_regrown c4
  refine wp_region_quiet_below (by kernel_rfl) (by kernel_rfl) ?_
  repeat (first | go_big_quiet_step (fail) | quiet_step (fail))
  refine wpQuiet_nil ?_; rintro wq ⟨⟨dq, osq⟩, rfl⟩; have hbq := below_regrown W dq osq; generalize Go.Sort.grow (redrawn W dq) osq = wq at *
  have hS := hS.step hbq
  clear c0 c1 c2 c3 c4 k2 k3 k4
  have c0 : wq.cell? ⟨w.heap.size, 0, none⟩ = some (.int .i64 t.k) := cell_of_row _ _ _ _ _ _ hS.g0
  have c1 : wq.cell? ⟨w.heap.size, 1, none⟩ = some (.int .i64 t.n) := cell_of_row _ _ _ _ _ _ hS.g0
  have c2 : wq.cell? ⟨w.heap.size, 2, none⟩ = some (.string t.s) := cell_of_row _ _ _ _ _ _ hS.g0
  go_wp2_with fail
  go_ret
  exact ⟨ret_bool hh.out.symm, hS.below⟩
set_option maxRecDepth 100000 in
set_option maxHeartbeats 1000000 in
theorem own_1ae (h0 : (t.k == 0) = false) (h1 : (t.k == 1) = true) (hn : (t.n == 0) = true) (l m : Bool) (hx : Fx t false l m) : Calls Tryz.prog 126 #[.agg t.c] w fun e w' => e = .returned (.bool (ownB t ib gb lb sb)) ∧ Below w.heap.size w w' := by
  have hh : Hid (ownB t ib gb lb sb = false) := by unfold Hid ownB; rw [hx.1, hx.2.1, hx.2.2]; simp [h0, h1, hn]
  have he : t.s.toList.isEmpty = false := hx.1
  have he2 : (t.s.toList == []) = false := by have := hx.1; cases hq : t.s.toList <;> simp_all
  have hl2 : decide ((0 : Int) < t.ln) = (!l) := (dec_l hx.2.1).1
  have hl3 : decide (0 < t.ln) = (!l) := (dec_l hx.2.1).2
  have hm2 : decide ((0 : Int) < t.mn) = (!m) := (dec_l hx.2.2).1
  have hm3 : decide (0 < t.mn) = (!m) := (dec_l hx.2.2).2
  clear hx
  skip
  have hS : Sees w (w.alloc (Obj.cells t.c 38)) [(w.heap.size, Obj.cells t.c 38)] := (Sees.start w).alloc _
  have c0 : (w.alloc (Obj.cells t.c 38)).cell? ⟨w.heap.size, 0, none⟩ = some (.int .i64 t.k) := cell_of_row _ _ _ _ _ _ hS.g0
  have c1 : (w.alloc (Obj.cells t.c 38)).cell? ⟨w.heap.size, 1, none⟩ = some (.int .i64 t.n) := cell_of_row _ _ _ _ _ _ hS.g0
  have c2 : (w.alloc (Obj.cells t.c 38)).cell? ⟨w.heap.size, 2, none⟩ = some (.string t.s) := cell_of_row _ _ _ _ _ _ hS.g0
  have c3 : (w.alloc (Obj.cells t.c 38)).cell? ⟨w.heap.size, 3, none⟩ = some (.slice t.lA t.ln t.lc) := cell_of_row _ _ _ _ _ _ hS.g0
  have c4 : (w.alloc (Obj.cells t.c 38)).cell? ⟨w.heap.size, 4, none⟩ = some (.slice t.mA t.mn t.mc) := cell_of_row _ _ _ _ _ _ hS.g0
  go_enter Tryz.func126, Tryz.ntmps126
  go_wp2_with fail
  generalize w.alloc (Obj.cells t.c 38) = W at *
  have k2 := cell_regrown c2
  have k3 := cell_regrown c3
  have k4 := cell_regrown c4
  refine wp_region_quiet_below (by kernel_rfl) (by kernel_rfl) ?_
  repeat (first | go_big_quiet_step (fail) | quiet_step (fail))
  refine wpQuiet_nil ?_; rintro wq ⟨⟨dq, osq⟩, rfl⟩; have hbq := below_regrown W dq osq; generalize Go.Sort.grow (redrawn W dq) osq = wq at *
  have hS := hS.step hbq
  clear c0 c1 c2 c3 c4 k2 k3 k4
  have c0 : wq.cell? ⟨w.heap.size, 0, none⟩ = some (.int .i64 t.k) := cell_of_row _ _ _ _ _ _ hS.g0
  have c1 : wq.cell? ⟨w.heap.size, 1, none⟩ = some (.int .i64 t.n) := cell_of_row _ _ _ _ _ _ hS.g0
  have c2 : wq.cell? ⟨w.heap.size, 2, none⟩ = some (.string t.s) := cell_of_row _ _ _ _ _ _ hS.g0
  go_wp2_with fail
  go_ret
  exact ⟨ret_bool hh.out.symm, hS.below⟩
set_option maxRecDepth 100000 in
set_option maxHeartbeats 1000000 in
theorem own_1al (h0 : (t.k == 0) = false) (h1 : (t.k == 1) = true) (hn : (t.n == 0) = true) (m : Bool) (hx : Fx t true false m) : Calls Tryz.prog 126 #[.agg t.c] w fun e w' => e = .returned (.bool (ownB t ib gb lb sb)) ∧ Below w.heap.size w w' := by
  have hh : Hid (ownB t ib gb lb sb = false) := by unfold Hid ownB; rw [hx.1, hx.2.1, hx.2.2]; simp [h0, h1, hn]
  have he : t.s.toList.isEmpty = true := hx.1
  have he2 : (t.s.toList == []) = true := by have := hx.1; cases hq : t.s.toList <;> simp_all
  have hl2 : decide ((0 : Int) < t.ln) = (!false) := (dec_l hx.2.1).1
  have hl3 : decide (0 < t.ln) = (!false) := (dec_l hx.2.1).2
  have hm2 : decide ((0 : Int) < t.mn) = (!m) := (dec_l hx.2.2).1
  have hm3 : decide (0 < t.mn) = (!m) := (dec_l hx.2.2).2
  clear hx
  skip
  have hS : Sees w (w.alloc (Obj.cells t.c 38)) [(w.heap.size, Obj.cells t.c 38)] := (Sees.start w).alloc _
  have c0 : (w.alloc (Obj.cells t.c 38)).cell? ⟨w.heap.size, 0, none⟩ = some (.int .i64 t.k) := cell_of_row _ _ _ _ _ _ hS.g0
  have c1 : (w.alloc (Obj.cells t.c 38)).cell? ⟨w.heap.size, 1, none⟩ = some (.int .i64 t.n) := cell_of_row _ _ _ _ _ _ hS.g0
  have c2 : (w.alloc (Obj.cells t.c 38)).cell? ⟨w.heap.size, 2, none⟩ = some (.string t.s) := cell_of_row _ _ _ _ _ _ hS.g0
  have c3 : (w.alloc (Obj.cells t.c 38)).cell? ⟨w.heap.size, 3, none⟩ = some (.slice t.lA t.ln t.lc) := cell_of_row _ _ _ _ _ _ hS.g0
  have c4 : (w.alloc (Obj.cells t.c 38)).cell? ⟨w.heap.size, 4, none⟩ = some (.slice t.mA t.mn t.mc) := cell_of_row _ _ _ _ _ _ hS.g0
  go_enter Tryz.func126, Tryz.ntmps126
  go_wp2_with fail
  generalize w.alloc (Obj.cells t.c 38) = W at *
  have k2 := cell_regrown c2
  have k3 := cell_regrown c3
  have k4 := cell_regrown c4
  refine wp_region_quiet_below (by kernel_rfl) (by kernel_rfl) ?_
  repeat (first | go_big_quiet_step (fail) | quiet_step (fail))
  refine wpQuiet_nil ?_; rintro wq ⟨⟨dq, osq⟩, rfl⟩; have hbq := below_regrown W dq osq; generalize Go.Sort.grow (redrawn W dq) osq = wq at *
  have hS := hS.step hbq
  clear c0 c1 c2 c3 c4 k2 k3 k4
  have c0 : wq.cell? ⟨w.heap.size, 0, none⟩ = some (.int .i64 t.k) := cell_of_row _ _ _ _ _ _ hS.g0
  have c1 : wq.cell? ⟨w.heap.size, 1, none⟩ = some (.int .i64 t.n) := cell_of_row _ _ _ _ _ _ hS.g0
  have c2 : wq.cell? ⟨w.heap.size, 2, none⟩ = some (.string t.s) := cell_of_row _ _ _ _ _ _ hS.g0
  go_wp2_with fail
  go_ret
  exact ⟨ret_bool hh.out.symm, hS.below⟩
set_option maxRecDepth 100000 in
set_option maxHeartbeats 1000000 in
theorem own_1am (h0 : (t.k == 0) = false) (h1 : (t.k == 1) = true) (hn : (t.n == 0) = true) (hx : Fx t true true false) : Calls Tryz.prog 126 #[.agg t.c] w fun e w' => e = .returned (.bool (ownB t ib gb lb sb)) ∧ Below w.heap.size w w' := by
  have hh : Hid (ownB t ib gb lb sb = false) := by unfold Hid ownB; rw [hx.1, hx.2.1, hx.2.2]; simp [h0, h1, hn]
  have he : t.s.toList.isEmpty = true := hx.1
  have he2 : (t.s.toList == []) = true := by have := hx.1; cases hq : t.s.toList <;> simp_all
  have hl2 : decide ((0 : Int) < t.ln) = (!true) := (dec_l hx.2.1).1
  have hl3 : decide (0 < t.ln) = (!true) := (dec_l hx.2.1).2
  have hm2 : decide ((0 : Int) < t.mn) = (!false) := (dec_l hx.2.2).1
  have hm3 : decide (0 < t.mn) = (!false) := (dec_l hx.2.2).2
  clear hx
  skip
  have hS : Sees w (w.alloc (Obj.cells t.c 38)) [(w.heap.size, Obj.cells t.c 38)] := (Sees.start w).alloc _
  have c0 : (w.alloc (Obj.cells t.c 38)).cell? ⟨w.heap.size, 0, none⟩ = some (.int .i64 t.k) := cell_of_row _ _ _ _ _ _ hS.g0
  have c1 : (w.alloc (Obj.cells t.c 38)).cell? ⟨w.heap.size, 1, none⟩ = some (.int .i64 t.n) := cell_of_row _ _ _ _ _ _ hS.g0
  have c2 : (w.alloc (Obj.cells t.c 38)).cell? ⟨w.heap.size, 2, none⟩ = some (.string t.s) := cell_of_row _ _ _ _ _ _ hS.g0
  have c3 : (w.alloc (Obj.cells t.c 38)).cell? ⟨w.heap.size, 3, none⟩ = some (.slice t.lA t.ln t.lc) := cell_of_row _ _ _ _ _ _ hS.g0
  have c4 : (w.alloc (Obj.cells t.c 38)).cell? ⟨w.heap.size, 4, none⟩ = some (.slice t.mA t.mn t.mc) := cell_of_row _ _ _ _ _ _ hS.g0
  go_enter Tryz.func126, Tryz.ntmps126
  go_wp2_with fail
  generalize w.alloc (Obj.cells t.c 38) = W at *
  have k2 := cell_regrown c2
  have k3 := cell_regrown c3
  have k4 := cell_regrown c4
  refine wp_region_quiet_below (by kernel_rfl) (by kernel_rfl) ?_
  repeat (first | go_big_quiet_step (fail) | quiet_step (fail))
  refine wpQuiet_nil ?_; rintro wq ⟨⟨dq, osq⟩, rfl⟩; have hbq := below_regrown W dq osq; generalize Go.Sort.grow (redrawn W dq) osq = wq at *
  have hS := hS.step hbq
  clear c0 c1 c2 c3 c4 k2 k3 k4
  have c0 : wq.cell? ⟨w.heap.size, 0, none⟩ = some (.int .i64 t.k) := cell_of_row _ _ _ _ _ _ hS.g0
  have c1 : wq.cell? ⟨w.heap.size, 1, none⟩ = some (.int .i64 t.n) := cell_of_row _ _ _ _ _ _ hS.g0
  have c2 : wq.cell? ⟨w.heap.size, 2, none⟩ = some (.string t.s) := cell_of_row _ _ _ _ _ _ hS.g0
  go_wp2_with fail
  go_ret
  exact ⟨ret_bool hh.out.symm, hS.below⟩
set_option maxRecDepth 100000 in
set_option maxHeartbeats 1000000 in
theorem own_1at (h0 : (t.k == 0) = false) (h1 : (t.k == 1) = true) (hn : (t.n == 0) = true) (hx : Fx t true true true) : Calls Tryz.prog 126 #[.agg t.c] w fun e w' => e = .returned (.bool (ownB t ib gb lb sb)) ∧ Below w.heap.size w w' := by
  have hh : Hid (ownB t ib gb lb sb = true) := by unfold Hid ownB; rw [hx.1, hx.2.1, hx.2.2]; simp [h0, h1, hn]
  have he : t.s.toList.isEmpty = true := hx.1
  have he2 : (t.s.toList == []) = true := by have := hx.1; cases hq : t.s.toList <;> simp_all
  have hl2 : decide ((0 : Int) < t.ln) = (!true) := (dec_l hx.2.1).1
  have hl3 : decide (0 < t.ln) = (!true) := (dec_l hx.2.1).2
  have hm2 : decide ((0 : Int) < t.mn) = (!true) := (dec_l hx.2.2).1
  have hm3 : decide (0 < t.mn) = (!true) := (dec_l hx.2.2).2
  clear hx
  skip
  have hS : Sees w (w.alloc (Obj.cells t.c 38)) [(w.heap.size, Obj.cells t.c 38)] := (Sees.start w).alloc _
  have c0 : (w.alloc (Obj.cells t.c 38)).cell? ⟨w.heap.size, 0, none⟩ = some (.int .i64 t.k) := cell_of_row _ _ _ _ _ _ hS.g0
  have c1 : (w.alloc (Obj.cells t.c 38)).cell? ⟨w.heap.size, 1, none⟩ = some (.int .i64 t.n) := cell_of_row _ _ _ _ _ _ hS.g0
  have c2 : (w.alloc (Obj.cells t.c 38)).cell? ⟨w.heap.size, 2, none⟩ = some (.string t.s) := cell_of_row _ _ _ _ _ _ hS.g0
  have c3 : (w.alloc (Obj.cells t.c 38)).cell? ⟨w.heap.size, 3, none⟩ = some (.slice t.lA t.ln t.lc) := cell_of_row _ _ _ _ _ _ hS.g0
  have c4 : (w.alloc (Obj.cells t.c 38)).cell? ⟨w.heap.size, 4, none⟩ = some (.slice t.mA t.mn t.mc) := cell_of_row _ _ _ _ _ _ hS.g0
  go_enter Tryz.func126, Tryz.ntmps126
  go_wp2_with fail
  generalize w.alloc (Obj.cells t.c 38) = W at *
  have k2 := cell_regrown c2
  have k3 := cell_regrown c3
  have k4 := cell_regrown c4
  refine wp_region_quiet_below (by kernel_rfl) (by kernel_rfl) ?_
  repeat (first | go_big_quiet_step (fail) | quiet_step (fail))
  refine wpQuiet_nil ?_; rintro wq ⟨⟨dq, osq⟩, rfl⟩; have hbq := below_regrown W dq osq; generalize Go.Sort.grow (redrawn W dq) osq = wq at *
  have hS := hS.step hbq
  clear c0 c1 c2 c3 c4 k2 k3 k4
  have c0 : wq.cell? ⟨w.heap.size, 0, none⟩ = some (.int .i64 t.k) := cell_of_row _ _ _ _ _ _ hS.g0
  have c1 : wq.cell? ⟨w.heap.size, 1, none⟩ = some (.int .i64 t.n) := cell_of_row _ _ _ _ _ _ hS.g0
  have c2 : wq.cell? ⟨w.heap.size, 2, none⟩ = some (.string t.s) := cell_of_row _ _ _ _ _ _ hS.g0
  go_wp2_with fail
  go_ret
  exact ⟨ret_bool hh.out.symm, hS.below⟩
set_option maxRecDepth 100000 in
set_option maxHeartbeats 1000000 in
theorem own_1be (h0 : (t.k == 0) = false) (h1 : (t.k == 1) = true) (hn : (t.n == 0) = false) (hn1 : (t.n == 1) = true) (l m : Bool) (hx : Fx t false l m) : Calls Tryz.prog 126 #[.agg t.c] w fun e w' => e = .returned (.bool (ownB t ib gb lb sb)) ∧ Below w.heap.size w w' := by
  have hh : Hid (ownB t ib gb lb sb = false) := by unfold Hid ownB; rw [hx.1, hx.2.1, hx.2.2]; simp [h0, h1, hn, hn1]
  have he : t.s.toList.isEmpty = false := hx.1
  have he2 : (t.s.toList == []) = false := by have := hx.1; cases hq : t.s.toList <;> simp_all
  have hl2 : decide ((0 : Int) < t.ln) = (!l) := (dec_l hx.2.1).1
  have hl3 : decide (0 < t.ln) = (!l) := (dec_l hx.2.1).2
  have hm2 : decide ((0 : Int) < t.mn) = (!m) := (dec_l hx.2.2).1
  have hm3 : decide (0 < t.mn) = (!m) := (dec_l hx.2.2).2
  clear hx
  skip
  have hS : Sees w (w.alloc (Obj.cells t.c 38)) [(w.heap.size, Obj.cells t.c 38)] := (Sees.start w).alloc _
  have c0 : (w.alloc (Obj.cells t.c 38)).cell? ⟨w.heap.size, 0, none⟩ = some (.int .i64 t.k) := cell_of_row _ _ _ _ _ _ hS.g0
  have c1 : (w.alloc (Obj.cells t.c 38)).cell? ⟨w.heap.size, 1, none⟩ = some (.int .i64 t.n) := cell_of_row _ _ _ _ _ _ hS.g0
  have c2 : (w.alloc (Obj.cells t.c 38)).cell? ⟨w.heap.size, 2, none⟩ = some (.string t.s) := cell_of_row _ _ _ _ _ _ hS.g0
  have c3 : (w.alloc (Obj.cells t.c 38)).cell? ⟨w.heap.size, 3, none⟩ = some (.slice t.lA t.ln t.lc) := cell_of_row _ _ _ _ _ _ hS.g0
  have c4 : (w.alloc (Obj.cells t.c 38)).cell? ⟨w.heap.size, 4, none⟩ = some (.slice t.mA t.mn t.mc) := cell_of_row _ _ _ _ _ _ hS.g0
  go_enter Tryz.func126, Tryz.ntmps126
  go_wp2_with fail
  generalize w.alloc (Obj.cells t.c 38) = W at *
  have k2 := cell_regrown c2
  have k3 := cell_regrown c3
  have k4 := cell_regrown c4
  refine wp_region_quiet_below (by kernel_rfl) (by kernel_rfl) ?_
  repeat (first | go_big_quiet_step (fail) | quiet_step (fail))
  refine wpQuiet_nil ?_; rintro wq ⟨⟨dq, osq⟩, rfl⟩; have hbq := below_regrown W dq osq; generalize Go.Sort.grow (redrawn W dq) osq = wq at *
  have hS := hS.step hbq
  clear c0 c1 c2 c3 c4 k2 k3 k4
  have c0 : wq.cell? ⟨w.heap.size, 0, none⟩ = some (.int .i64 t.k) := cell_of_row _ _ _ _ _ _ hS.g0
  have c1 : wq.cell? ⟨w.heap.size, 1, none⟩ = some (.int .i64 t.n) := cell_of_row _ _ _ _ _ _ hS.g0
  have c2 : wq.cell? ⟨w.heap.size, 2, none⟩ = some (.string t.s) := cell_of_row _ _ _ _ _ _ hS.g0
  go_wp2_with fail
  go_ret
  exact ⟨ret_bool hh.out.symm, hS.below⟩
set_option maxRecDepth 100000 in
set_option maxHeartbeats 1000000 in
theorem own_1bl (h0 : (t.k == 0) = false) (h1 : (t.k == 1) = true) (hn : (t.n == 0) = false) (hn1 : (t.n == 1) = true) (m : Bool) (hx : Fx t true false m) : Calls Tryz.prog 126 #[.agg t.c] w fun e w' => e = .returned (.bool (ownB t ib gb lb sb)) ∧ Below w.heap.size w w' := by
  have hh : Hid (ownB t ib gb lb sb = false) := by unfold Hid ownB; rw [hx.1, hx.2.1, hx.2.2]; simp [h0, h1, hn, hn1]
  have he : t.s.toList.isEmpty = true := hx.1
  have he2 : (t.s.toList == []) = true := by have := hx.1; cases hq : t.s.toList <;> simp_all
  have hl2 : decide ((0 : Int) < t.ln) = (!false) := (dec_l hx.2.1).1
  have hl3 : decide (0 < t.ln) = (!false) := (dec_l hx.2.1).2
  have hm2 : decide ((0 : Int) < t.mn) = (!m) := (dec_l hx.2.2).1
  have hm3 : decide (0 < t.mn) = (!m) := (dec_l hx.2.2).2
  clear hx
  skip
  have hS : Sees w (w.alloc (Obj.cells t.c 38)) [(w.heap.size, Obj.cells t.c 38)] := (Sees.start w).alloc _
  have c0 : (w.alloc (Obj.cells t.c 38)).cell? ⟨w.heap.size, 0, none⟩ = some (.int .i64 t.k) := cell_of_row _ _ _ _ _ _ hS.g0
  have c1 : (w.alloc (Obj.cells t.c 38)).cell? ⟨w.heap.size, 1, none⟩ = some (.int .i64 t.n) := cell_of_row _ _ _ _ _ _ hS.g0
  have c2 : (w.alloc (Obj.cells t.c 38)).cell? ⟨w.heap.size, 2, none⟩ = some (.string t.s) := cell_of_row _ _ _ _ _ _ hS.g0
  have c3 : (w.alloc (Obj.cells t.c 38)).cell? ⟨w.heap.size, 3, none⟩ = some (.slice t.lA t.ln t.lc) := cell_of_row _ _ _ _ _ _ hS.g0
  have c4 : (w.alloc (Obj.cells t.c 38)).cell? ⟨w.heap.size, 4, none⟩ = some (.slice t.mA t.mn t.mc) := cell_of_row _ _ _ _ _ _ hS.g0
  go_enter Tryz.func126, Tryz.ntmps126
  go_wp2_with fail
  generalize w.alloc (Obj.cells t.c 38) = W at *
  have k2 := cell_regrown c2
  have k3 := cell_regrown c3
  have k4 := cell_regrown c4
  refine wp_region_quiet_below (by kernel_rfl) (by kernel_rfl) ?_
  repeat (first | go_big_quiet_step (fail) | quiet_step (fail))
  refine wpQuiet_nil ?_; rintro wq ⟨⟨dq, osq⟩, rfl⟩; have hbq := below_regrown W dq osq; generalize Go.Sort.grow (redrawn W dq) osq = wq at *
  have hS := hS.step hbq
  clear c0 c1 c2 c3 c4 k2 k3 k4
  have c0 : wq.cell? ⟨w.heap.size, 0, none⟩ = some (.int .i64 t.k) := cell_of_row _ _ _ _ _ _ hS.g0
  have c1 : wq.cell? ⟨w.heap.size, 1, none⟩ = some (.int .i64 t.n) := cell_of_row _ _ _ _ _ _ hS.g0
  have c2 : wq.cell? ⟨w.heap.size, 2, none⟩ = some (.string t.s) := cell_of_row _ _ _ _ _ _ hS.g0
  go_wp2_with fail
  go_ret
  exact ⟨ret_bool hh.out.symm, hS.below⟩
set_option maxRecDepth 100000 in
set_option maxHeartbeats 1000000 in
theorem own_1bm (h0 : (t.k == 0) = false) (h1 : (t.k == 1) = true) (hn : (t.n == 0) = false) (hn1 : (t.n == 1) = true) (hx : Fx t true true false) : Calls Tryz.prog 126 #[.agg t.c] w fun e w' => e = .returned (.bool (ownB t ib gb lb sb)) ∧ Below w.heap.size w w' := by
  have hh : Hid (ownB t ib gb lb sb = false) := by unfold Hid ownB; rw [hx.1, hx.2.1, hx.2.2]; simp [h0, h1, hn, hn1]
  have he : t.s.toList.isEmpty = true := hx.1
  have he2 : (t.s.toList == []) = true := by have := hx.1; cases hq : t.s.toList <;> simp_all
  have hl2 : decide ((0 : Int) < t.ln) = (!true) := (dec_l hx.2.1).1
  have hl3 : decide (0 < t.ln) = (!true) := (dec_l hx.2.1).2
  have hm2 : decide ((0 : Int) < t.mn) = (!false) := (dec_l hx.2.2).1
  have hm3 : decide (0 < t.mn) = (!false) := (dec_l hx.2.2).2
  clear hx
  skip
  have hS : Sees w (w.alloc (Obj.cells t.c 38)) [(w.heap.size, Obj.cells t.c 38)] := (Sees.start w).alloc _
  have c0 : (w.alloc (Obj.cells t.c 38)).cell? ⟨w.heap.size, 0, none⟩ = some (.int .i64 t.k) := cell_of_row _ _ _ _ _ _ hS.g0
  have c1 : (w.alloc (Obj.cells t.c 38)).cell? ⟨w.heap.size, 1, none⟩ = some (.int .i64 t.n) := cell_of_row _ _ _ _ _ _ hS.g0
  have c2 : (w.alloc (Obj.cells t.c 38)).cell? ⟨w.heap.size, 2, none⟩ = some (.string t.s) := cell_of_row _ _ _ _ _ _ hS.g0
  have c3 : (w.alloc (Obj.cells t.c 38)).cell? ⟨w.heap.size, 3, none⟩ = some (.slice t.lA t.ln t.lc) := cell_of_row _ _ _ _ _ _ hS.g0
  have c4 : (w.alloc (Obj.cells t.c 38)).cell? ⟨w.heap.size, 4, none⟩ = some (.slice t.mA t.mn t.mc) := cell_of_row _ _ _ _ _ _ hS.g0
  go_enter Tryz.func126, Tryz.ntmps126
  go_wp2_with fail
  generalize w.alloc (Obj.cells t.c 38) = W at *
  have k2 := cell_regrown c2
  have k3 := cell_regrown c3
  have k4 := cell_regrown c4
  refine wp_region_quiet_below (by kernel_rfl) (by kernel_rfl) ?_
  repeat (first | go_big_quiet_step (fail) | quiet_step (fail))
  refine wpQuiet_nil ?_; rintro wq ⟨⟨dq, osq⟩, rfl⟩; have hbq := below_regrown W dq osq; generalize Go.Sort.grow (redrawn W dq) osq = wq at *
  have hS := hS.step hbq
  clear c0 c1 c2 c3 c4 k2 k3 k4
  have c0 : wq.cell? ⟨w.heap.size, 0, none⟩ = some (.int .i64 t.k) := cell_of_row _ _ _ _ _ _ hS.g0
  have c1 : wq.cell? ⟨w.heap.size, 1, none⟩ = some (.int .i64 t.n) := cell_of_row _ _ _ _ _ _ hS.g0
  have c2 : wq.cell? ⟨w.heap.size, 2, none⟩ = some (.string t.s) := cell_of_row _ _ _ _ _ _ hS.g0
  go_wp2_with fail
  go_ret
  exact ⟨ret_bool hh.out.symm, hS.below⟩
set_option maxRecDepth 100000 in
set_option maxHeartbeats 1000000 in
theorem own_1bt (h0 : (t.k == 0) = false) (h1 : (t.k == 1) = true) (hn : (t.n == 0) = false) (hn1 : (t.n == 1) = true) (hx : Fx t true true true) : Calls Tryz.prog 126 #[.agg t.c] w fun e w' => e = .returned (.bool (ownB t ib gb lb sb)) ∧ Below w.heap.size w w' := by
  have hh : Hid (ownB t ib gb lb sb = true) := by unfold Hid ownB; rw [hx.1, hx.2.1, hx.2.2]; simp [h0, h1, hn, hn1]
  have he : t.s.toList.isEmpty = true := hx.1
  have he2 : (t.s.toList == []) = true := by have := hx.1; cases hq : t.s.toList <;> simp_all
  have hl2 : decide ((0 : Int) < t.ln) = (!true) := (dec_l hx.2.1).1
  have hl3 : decide (0 < t.ln) = (!true) := (dec_l hx.2.1).2
  have hm2 : decide ((0 : Int) < t.mn) = (!true) := (dec_l hx.2.2).1
  have hm3 : decide (0 < t.mn) = (!true) := (dec_l hx.2.2).2
  clear hx
  skip
  have hS : Sees w (w.alloc (Obj.cells t.c 38)) [(w.heap.size, Obj.cells t.c 38)] := (Sees.start w).alloc _
  have c0 : (w.alloc (Obj.cells t.c 38)).cell? ⟨w.heap.size, 0, none⟩ = some (.int .i64 t.k) := cell_of_row _ _ _ _ _ _ hS.g0
  have c1 : (w.alloc (Obj.cells t.c 38)).cell? ⟨w.heap.size, 1, none⟩ = some (.int .i64 t.n) := cell_of_row _ _ _ _ _ _ hS.g0
  have c2 : (w.alloc (Obj.cells t.c 38)).cell? ⟨w.heap.size, 2, none⟩ = some (.string t.s) := cell_of_row _ _ _ _ _ _ hS.g0
  have c3 : (w.alloc (Obj.cells t.c 38)).cell? ⟨w.heap.size, 3, none⟩ = some (.slice t.lA t.ln t.lc) := cell_of_row _ _ _ _ _ _ hS.g0
  have c4 : (w.alloc (Obj.cells t.c 38)).cell? ⟨w.heap.size, 4, none⟩ = some (.slice t.mA t.mn t.mc) := cell_of_row _ _ _ _ _ _ hS.g0
  go_enter Tryz.func126, Tryz.ntmps126
  go_wp2_with fail
  generalize w.alloc (Obj.cells t.c 38) = W at *
  have k2 := cell_regrown c2
  have k3 := cell_regrown c3
  have k4 := cell_regrown c4
  refine wp_region_quiet_below (by kernel_rfl) (by kernel_rfl) ?_
  repeat (first | go_big_quiet_step (fail) | quiet_step (fail))
  refine wpQuiet_nil ?_; rintro wq ⟨⟨dq, osq⟩, rfl⟩; have hbq := below_regrown W dq osq; generalize Go.Sort.grow (redrawn W dq) osq = wq at *
  have hS := hS.step hbq
  clear c0 c1 c2 c3 c4 k2 k3 k4
  have c0 : wq.cell? ⟨w.heap.size, 0, none⟩ = some (.int .i64 t.k) := cell_of_row _ _ _ _ _ _ hS.g0
  have c1 : wq.cell? ⟨w.heap.size, 1, none⟩ = some (.int .i64 t.n) := cell_of_row _ _ _ _ _ _ hS.g0
  have c2 : wq.cell? ⟨w.heap.size, 2, none⟩ = some (.string t.s) := cell_of_row _ _ _ _ _ _ hS.g0
  go_wp2_with fail
  go_ret
  exact ⟨ret_bool hh.out.symm, hS.below⟩
set_option maxRecDepth 100000 in
set_option maxHeartbeats 1000000 in
theorem own_1n (h0 : (t.k == 0) = false) (h1 : (t.k == 1) = true) (hn : (t.n == 0) = false) (hn1 : (t.n == 1) = false) (e l m : Bool) (hx : Fx t e l m) : Calls Tryz.prog 126 #[.agg t.c] w fun e w' => e = .returned (.bool (ownB t ib gb lb sb)) ∧ Below w.heap.size w w' := by
  have hh : Hid (ownB t ib gb lb sb = false) := by unfold Hid ownB; rw [hx.1, hx.2.1, hx.2.2]; simp [h0, h1, hn, hn1]
  have he : t.s.toList.isEmpty = e := hx.1
  have he2 : (t.s.toList == []) = e := by have := hx.1; cases hq : t.s.toList <;> simp_all
  have hl2 : decide ((0 : Int) < t.ln) = (!l) := (dec_l hx.2.1).1
  have hl3 : decide (0 < t.ln) = (!l) := (dec_l hx.2.1).2
  have hm2 : decide ((0 : Int) < t.mn) = (!m) := (dec_l hx.2.2).1
  have hm3 : decide (0 < t.mn) = (!m) := (dec_l hx.2.2).2
  clear hx
  skip
  have hS : Sees w (w.alloc (Obj.cells t.c 38)) [(w.heap.size, Obj.cells t.c 38)] := (Sees.start w).alloc _
  have c0 : (w.alloc (Obj.cells t.c 38)).cell? ⟨w.heap.size, 0, none⟩ = some (.int .i64 t.k) := cell_of_row _ _ _ _ _ _ hS.g0
  have c1 : (w.alloc (Obj.cells t.c 38)).cell? ⟨w.heap.size, 1, none⟩ = some (.int .i64 t.n) := cell_of_row _ _ _ _ _ _ hS.g0
  have c2 : (w.alloc (Obj.cells t.c 38)).cell? ⟨w.heap.size, 2, none⟩ = some (.string t.s) := cell_of_row _ _ _ _ _ _ hS.g0
  have c3 : (w.alloc (Obj.cells t.c 38)).cell? ⟨w.heap.size, 3, none⟩ = some (.slice t.lA t.ln t.lc) := cell_of_row _ _ _ _ _ _ hS.g0
  have c4 : (w.alloc (Obj.cells t.c 38)).cell? ⟨w.heap.size, 4, none⟩ = some (.slice t.mA t.mn t.mc) := cell_of_row _ _ _ _ _ _ hS.g0
  go_enter Tryz.func126, Tryz.ntmps126
  go_wp2_with fail
  generalize w.alloc (Obj.cells t.c 38) = W at *
  have k2 := cell_regrown c2
  have k3 := cell_regrown c3
  have k4 := cell_regrown c4
  refine wp_region_quiet_below (by kernel_rfl) (by kernel_rfl) ?_
  repeat (first | go_big_quiet_step (fail) | quiet_step (fail))
  refine wpQuiet_nil ?_; rintro wq ⟨⟨dq, osq⟩, rfl⟩; have hbq := below_regrown W dq osq; generalize Go.Sort.grow (redrawn W dq) osq = wq at *
  have hS := hS.step hbq
  clear c0 c1 c2 c3 c4 k2 k3 k4
  have c0 : wq.cell? ⟨w.heap.size, 0, none⟩ = some (.int .i64 t.k) := cell_of_row _ _ _ _ _ _ hS.g0
  have c1 : wq.cell? ⟨w.heap.size, 1, none⟩ = some (.int .i64 t.n) := cell_of_row _ _ _ _ _ _ hS.g0
  have c2 : wq.cell? ⟨w.heap.size, 2, none⟩ = some (.string t.s) := cell_of_row _ _ _ _ _ _ hS.g0
  go_wp2_with fail
  go_ret
  exact ⟨ret_bool hh.out.symm, hS.below⟩
set_option maxRecDepth 100000 in
set_option maxHeartbeats 1000000 in
theorem own_2e (h0 : (t.k == 0) = false) (h1 : (t.k == 1) = false) (h2 : (t.k == 2) = true) (l m : Bool) (hx : Fx t false l m) : Calls Tryz.prog 126 #[.agg t.c] w fun e w' => e = .returned (.bool (ownB t ib gb lb sb)) ∧ Below w.heap.size w w' := by
  have hh : Hid (ownB t ib gb lb sb = false) := by unfold Hid ownB; rw [hx.1, hx.2.1, hx.2.2]; simp [h0, h1, h2]
  have he : t.s.toList.isEmpty = false := hx.1
  have he2 : (t.s.toList == []) = false := by have := hx.1; cases hq : t.s.toList <;> simp_all
  have hl2 : decide ((0 : Int) < t.ln) = (!l) := (dec_l hx.2.1).1
  have hl3 : decide (0 < t.ln) = (!l) := (dec_l hx.2.1).2
  have hm2 : decide ((0 : Int) < t.mn) = (!m) := (dec_l hx.2.2).1
  have hm3 : decide (0 < t.mn) = (!m) := (dec_l hx.2.2).2
  clear hx
  skip
  have hS : Sees w (w.alloc (Obj.cells t.c 38)) [(w.heap.size, Obj.cells t.c 38)] := (Sees.start w).alloc _
  have c0 : (w.alloc (Obj.cells t.c 38)).cell? ⟨w.heap.size, 0, none⟩ = some (.int .i64 t.k) := cell_of_row _ _ _ _ _ _ hS.g0
  have c1 : (w.alloc (Obj.cells t.c 38)).cell? ⟨w.heap.size, 1, none⟩ = some (.int .i64 t.n) := cell_of_row _ _ _ _ _ _ hS.g0
  have c2 : (w.alloc (Obj.cells t.c 38)).cell? ⟨w.heap.size, 2, none⟩ = some (.string t.s) := cell_of_row _ _ _ _ _ _ hS.g0
  have c3 : (w.alloc (Obj.cells t.c 38)).cell? ⟨w.heap.size, 3, none⟩ = some (.slice t.lA t.ln t.lc) := cell_of_row _ _ _ _ _ _ hS.g0
  have c4 : (w.alloc (Obj.cells t.c 38)).cell? ⟨w.heap.size, 4, none⟩ = some (.slice t.mA t.mn t.mc) := cell_of_row _ _ _ _ _ _ hS.g0
  go_enter Tryz.func126, Tryz.ntmps126
  go_wp2_with fail
  generalize w.alloc (Obj.cells t.c 38) = W at *
  have k2 := cell_regrown c2
  have k3 := cell_regrown c3
  have k4 := cell_regrown c4
  refine wp_region_quiet_below (by kernel_rfl) (by kernel_rfl) ?_
  repeat (first | go_big_quiet_step (fail) | quiet_step (fail))
  refine wpQuiet_nil ?_; rintro wq ⟨⟨dq, osq⟩, rfl⟩; have hbq := below_regrown W dq osq; generalize Go.Sort.grow (redrawn W dq) osq = wq at *
  have hS := hS.step hbq
  clear c0 c1 c2 c3 c4 k2 k3 k4
  have c0 : wq.cell? ⟨w.heap.size, 0, none⟩ = some (.int .i64 t.k) := cell_of_row _ _ _ _ _ _ hS.g0
  have c1 : wq.cell? ⟨w.heap.size, 1, none⟩ = some (.int .i64 t.n) := cell_of_row _ _ _ _ _ _ hS.g0
  have c2 : wq.cell? ⟨w.heap.size, 2, none⟩ = some (.string t.s) := cell_of_row _ _ _ _ _ _ hS.g0
  go_wp2_with fail
  go_ret
  exact ⟨ret_bool hh.out.symm, hS.below⟩
set_option maxRecDepth 100000 in
set_option maxHeartbeats 1000000 in
theorem own_2l (h0 : (t.k == 0) = false) (h1 : (t.k == 1) = false) (h2 : (t.k == 2) = true) (m : Bool) (hx : Fx t true false m) : Calls Tryz.prog 126 #[.agg t.c] w fun e w' => e = .returned (.bool (ownB t ib gb lb sb)) ∧ Below w.heap.size w w' := by
  have hh : Hid (ownB t ib gb lb sb = false) := by unfold Hid ownB; rw [hx.1, hx.2.1, hx.2.2]; simp [h0, h1, h2]
  have he : t.s.toList.isEmpty = true := hx.1
  have he2 : (t.s.toList == []) = true := by have := hx.1; cases hq : t.s.toList <;> simp_all
  have hl2 : decide ((0 : Int) < t.ln) = (!false) := (dec_l hx.2.1).1
  have hl3 : decide (0 < t.ln) = (!false) := (dec_l hx.2.1).2
  have hm2 : decide ((0 : Int) < t.mn) = (!m) := (dec_l hx.2.2).1
  have hm3 : decide (0 < t.mn) = (!m) := (dec_l hx.2.2).2
  clear hx
  skip
  have hS : Sees w (w.alloc (Obj.cells t.c 38)) [(w.heap.size, Obj.cells t.c 38)] := (Sees.start w).alloc _
  have c0 : (w.alloc (Obj.cells t.c 38)).cell? ⟨w.heap.size, 0, none⟩ = some (.int .i64 t.k) := cell_of_row _ _ _ _ _ _ hS.g0
  have c1 : (w.alloc (Obj.cells t.c 38)).cell? ⟨w.heap.size, 1, none⟩ = some (.int .i64 t.n) := cell_of_row _ _ _ _ _ _ hS.g0
  have c2 : (w.alloc (Obj.cells t.c 38)).cell? ⟨w.heap.size, 2, none⟩ = some (.string t.s) := cell_of_row _ _ _ _ _ _ hS.g0
  have c3 : (w.alloc (Obj.cells t.c 38)).cell? ⟨w.heap.size, 3, none⟩ = some (.slice t.lA t.ln t.lc) := cell_of_row _ _ _ _ _ _ hS.g0
  have c4 : (w.alloc (Obj.cells t.c 38)).cell? ⟨w.heap.size, 4, none⟩ = some (.slice t.mA t.mn t.mc) := cell_of_row _ _ _ _ _ _ hS.g0
  go_enter Tryz.func126, Tryz.ntmps126
  go_wp2_with fail
  generalize w.alloc (Obj.cells t.c 38) = W at *
  have k2 := cell_regrown c2
  have k3 := cell_regrown c3
  have k4 := cell_regrown c4
  refine wp_region_quiet_below (by kernel_rfl) (by kernel_rfl) ?_
  repeat (first | go_big_quiet_step (fail) | quiet_step (fail))
  refine wpQuiet_nil ?_; rintro wq ⟨⟨dq, osq⟩, rfl⟩; have hbq := below_regrown W dq osq; generalize Go.Sort.grow (redrawn W dq) osq = wq at *
  have hS := hS.step hbq
  clear c0 c1 c2 c3 c4 k2 k3 k4
  have c0 : wq.cell? ⟨w.heap.size, 0, none⟩ = some (.int .i64 t.k) := cell_of_row _ _ _ _ _ _ hS.g0
  have c1 : wq.cell? ⟨w.heap.size, 1, none⟩ = some (.int .i64 t.n) := cell_of_row _ _ _ _ _ _ hS.g0
  have c2 : wq.cell? ⟨w.heap.size, 2, none⟩ = some (.string t.s) := cell_of_row _ _ _ _ _ _ hS.g0
  go_wp2_with fail
  go_ret
  exact ⟨ret_bool hh.out.symm, hS.below⟩
set_option maxRecDepth 100000 in
set_option maxHeartbeats 1000000 in
theorem own_2m (h0 : (t.k == 0) = false) (h1 : (t.k == 1) = false) (h2 : (t.k == 2) = true) (hx : Fx t true true false) : Calls Tryz.prog 126 #[.agg t.c] w fun e w' => e = .returned (.bool (ownB t ib gb lb sb)) ∧ Below w.heap.size w w' := by
  have hh : Hid (ownB t ib gb lb sb = false) := by unfold Hid ownB; rw [hx.1, hx.2.1, hx.2.2]; simp [h0, h1, h2]
  have he : t.s.toList.isEmpty = true := hx.1
  have he2 : (t.s.toList == []) = true := by have := hx.1; cases hq : t.s.toList <;> simp_all
  have hl2 : decide ((0 : Int) < t.ln) = (!true) := (dec_l hx.2.1).1
  have hl3 : decide (0 < t.ln) = (!true) := (dec_l hx.2.1).2
  have hm2 : decide ((0 : Int) < t.mn) = (!false) := (dec_l hx.2.2).1
  have hm3 : decide (0 < t.mn) = (!false) := (dec_l hx.2.2).2
  clear hx
  skip
  have hS : Sees w (w.alloc (Obj.cells t.c 38)) [(w.heap.size, Obj.cells t.c 38)] := (Sees.start w).alloc _
  have c0 : (w.alloc (Obj.cells t.c 38)).cell? ⟨w.heap.size, 0, none⟩ = some (.int .i64 t.k) := cell_of_row _ _ _ _ _ _ hS.g0
  have c1 : (w.alloc (Obj.cells t.c 38)).cell? ⟨w.heap.size, 1, none⟩ = some (.int .i64 t.n) := cell_of_row _ _ _ _ _ _ hS.g0
  have c2 : (w.alloc (Obj.cells t.c 38)).cell? ⟨w.heap.size, 2, none⟩ = some (.string t.s) := cell_of_row _ _ _ _ _ _ hS.g0
  have c3 : (w.alloc (Obj.cells t.c 38)).cell? ⟨w.heap.size, 3, none⟩ = some (.slice t.lA t.ln t.lc) := cell_of_row _ _ _ _ _ _ hS.g0
  have c4 : (w.alloc (Obj.cells t.c 38)).cell? ⟨w.heap.size, 4, none⟩ = some (.slice t.mA t.mn t.mc) := cell_of_row _ _ _ _ _ _ hS.g0
  go_enter Tryz.func126, Tryz.ntmps126
  go_wp2_with fail
  generalize w.alloc (Obj.cells t.c 38) = W at *
  have k2 := cell_regrown c2
  have k3 := cell_regrown c3
  have k4 := cell_regrown c4
  refine wp_region_quiet_below (by kernel_rfl) (by kernel_rfl) ?_
  repeat (first | go_big_quiet_step (fail) | quiet_step (fail))
  refine wpQuiet_nil ?_; rintro wq ⟨⟨dq, osq⟩, rfl⟩; have hbq := below_regrown W dq osq; generalize Go.Sort.grow (redrawn W dq) osq = wq at *
  have hS := hS.step hbq
  clear c0 c1 c2 c3 c4 k2 k3 k4
  have c0 : wq.cell? ⟨w.heap.size, 0, none⟩ = some (.int .i64 t.k) := cell_of_row _ _ _ _ _ _ hS.g0
  have c1 : wq.cell? ⟨w.heap.size, 1, none⟩ = some (.int .i64 t.n) := cell_of_row _ _ _ _ _ _ hS.g0
  have c2 : wq.cell? ⟨w.heap.size, 2, none⟩ = some (.string t.s) := cell_of_row _ _ _ _ _ _ hS.g0
  go_wp2_with fail
  go_ret
  exact ⟨ret_bool hh.out.symm, hS.below⟩
set_option maxRecDepth 100000 in
set_option maxHeartbeats 1000000 in
theorem own_2t (h0 : (t.k == 0) = false) (h1 : (t.k == 1) = false) (h2 : (t.k == 2) = true) (hx : Fx t true true true) : Calls Tryz.prog 126 #[.agg t.c] w fun e w' => e = .returned (.bool (ownB t ib gb lb sb)) ∧ Below w.heap.size w w' := by
  have hh : Hid (ownB t ib gb lb sb = true) := by unfold Hid ownB; rw [hx.1, hx.2.1, hx.2.2]; simp [h0, h1, h2]
  have he : t.s.toList.isEmpty = true := hx.1
  have he2 : (t.s.toList == []) = true := by have := hx.1; cases hq : t.s.toList <;> simp_all
  have hl2 : decide ((0 : Int) < t.ln) = (!true) := (dec_l hx.2.1).1
  have hl3 : decide (0 < t.ln) = (!true) := (dec_l hx.2.1).2
  have hm2 : decide ((0 : Int) < t.mn) = (!true) := (dec_l hx.2.2).1
  have hm3 : decide (0 < t.mn) = (!true) := (dec_l hx.2.2).2
  clear hx
  skip
  have hS : Sees w (w.alloc (Obj.cells t.c 38)) [(w.heap.size, Obj.cells t.c 38)] := (Sees.start w).alloc _
  have c0 : (w.alloc (Obj.cells t.c 38)).cell? ⟨w.heap.size, 0, none⟩ = some (.int .i64 t.k) := cell_of_row _ _ _ _ _ _ hS.g0
  have c1 : (w.alloc (Obj.cells t.c 38)).cell? ⟨w.heap.size, 1, none⟩ = some (.int .i64 t.n) := cell_of_row _ _ _ _ _ _ hS.g0
  have c2 : (w.alloc (Obj.cells t.c 38)).cell? ⟨w.heap.size, 2, none⟩ = some (.string t.s) := cell_of_row _ _ _ _ _ _ hS.g0
  have c3 : (w.alloc (Obj.cells t.c 38)).cell? ⟨w.heap.size, 3, none⟩ = some (.slice t.lA t.ln t.lc) := cell_of_row _ _ _ _ _ _ hS.g0
  have c4 : (w.alloc (Obj.cells t.c 38)).cell? ⟨w.heap.size, 4, none⟩ = some (.slice t.mA t.mn t.mc) := cell_of_row _ _ _ _ _ _ hS.g0
  go_enter Tryz.func126, Tryz.ntmps126
  go_wp2_with fail
  generalize w.alloc (Obj.cells t.c 38) = W at *
  have k2 := cell_regrown c2
  have k3 := cell_regrown c3
  have k4 := cell_regrown c4
  refine wp_region_quiet_below (by kernel_rfl) (by kernel_rfl) ?_
  repeat (first | go_big_quiet_step (fail) | quiet_step (fail))
  refine wpQuiet_nil ?_; rintro wq ⟨⟨dq, osq⟩, rfl⟩; have hbq := below_regrown W dq osq; generalize Go.Sort.grow (redrawn W dq) osq = wq at *
  have hS := hS.step hbq
  clear c0 c1 c2 c3 c4 k2 k3 k4
  have c0 : wq.cell? ⟨w.heap.size, 0, none⟩ = some (.int .i64 t.k) := cell_of_row _ _ _ _ _ _ hS.g0
  have c1 : wq.cell? ⟨w.heap.size, 1, none⟩ = some (.int .i64 t.n) := cell_of_row _ _ _ _ _ _ hS.g0
  have c2 : wq.cell? ⟨w.heap.size, 2, none⟩ = some (.string t.s) := cell_of_row _ _ _ _ _ _ hS.g0
  go_wp2_with fail
  go_ret
  exact ⟨ret_bool hh.out.symm, hS.below⟩
set_option maxRecDepth 100000 in
set_option maxHeartbeats 1000000 in
theorem own_5ae (h0 : (t.k == 0) = false) (h1 : (t.k == 1) = false) (h2 : (t.k == 2) = false) (h5 : (t.k == 5) = true) (hn : (t.n == 0) = true) (l m : Bool) (hx : Fx t false l m) : Calls Tryz.prog 126 #[.agg t.c] w fun e w' => e = .returned (.bool (ownB t ib gb lb sb)) ∧ Below w.heap.size w w' := by
  have hh : Hid (ownB t ib gb lb sb = false) := by unfold Hid ownB; rw [hx.1, hx.2.1, hx.2.2]; simp [h0, h1, h2, h5, hn]
  have he : t.s.toList.isEmpty = false := hx.1
  have he2 : (t.s.toList == []) = false := by have := hx.1; cases hq : t.s.toList <;> simp_all
  have hl2 : decide ((0 : Int) < t.ln) = (!l) := (dec_l hx.2.1).1
  have hl3 : decide (0 < t.ln) = (!l) := (dec_l hx.2.1).2
  have hm2 : decide ((0 : Int) < t.mn) = (!m) := (dec_l hx.2.2).1
  have hm3 : decide (0 < t.mn) = (!m) := (dec_l hx.2.2).2
  clear hx
  skip
  have hS : Sees w (w.alloc (Obj.cells t.c 38)) [(w.heap.size, Obj.cells t.c 38)] := (Sees.start w).alloc _
  have c0 : (w.alloc (Obj.cells t.c 38)).cell? ⟨w.heap.size, 0, none⟩ = some (.int .i64 t.k) := cell_of_row _ _ _ _ _ _ hS.g0
  have c1 : (w.alloc (Obj.cells t.c 38)).cell? ⟨w.heap.size, 1, none⟩ = some (.int .i64 t.n) := cell_of_row _ _ _ _ _ _ hS.g0
  have c2 : (w.alloc (Obj.cells t.c 38)).cell? ⟨w.heap.size, 2, none⟩ = some (.string t.s) := cell_of_row _ _ _ _ _ _ hS.g0
  have c3 : (w.alloc (Obj.cells t.c 38)).cell? ⟨w.heap.size, 3, none⟩ = some (.slice t.lA t.ln t.lc) := cell_of_row _ _ _ _ _ _ hS.g0
  have c4 : (w.alloc (Obj.cells t.c 38)).cell? ⟨w.heap.size, 4, none⟩ = some (.slice t.mA t.mn t.mc) := cell_of_row _ _ _ _ _ _ hS.g0
  go_enter Tryz.func126, Tryz.ntmps126
  go_wp2_with fail
  generalize w.alloc (Obj.cells t.c 38) = W at *
  have k2 := cell_regrown c2
  have k3 := cell_regrown c3
  have k4 := cell_regrown c4
  refine wp_region_quiet_below (by kernel_rfl) (by kernel_rfl) ?_
  repeat (first | go_big_quiet_step (fail) | quiet_step (fail))
  refine wpQuiet_nil ?_; rintro wq ⟨⟨dq, osq⟩, rfl⟩; have hbq := below_regrown W dq osq; generalize Go.Sort.grow (redrawn W dq) osq = wq at *
  have hS := hS.step hbq
  clear c0 c1 c2 c3 c4 k2 k3 k4
  have c0 : wq.cell? ⟨w.heap.size, 0, none⟩ = some (.int .i64 t.k) := cell_of_row _ _ _ _ _ _ hS.g0
  have c1 : wq.cell? ⟨w.heap.size, 1, none⟩ = some (.int .i64 t.n) := cell_of_row _ _ _ _ _ _ hS.g0
  have c2 : wq.cell? ⟨w.heap.size, 2, none⟩ = some (.string t.s) := cell_of_row _ _ _ _ _ _ hS.g0
  go_wp2_with fail
  go_ret
  exact ⟨ret_bool hh.out.symm, hS.below⟩
set_option maxRecDepth 100000 in
set_option maxHeartbeats 1000000 in
theorem own_5am (h0 : (t.k == 0) = false) (h1 : (t.k == 1) = false) (h2 : (t.k == 2) = false) (h5 : (t.k == 5) = true) (hn : (t.n == 0) = true) (l : Bool) (hx : Fx t true l false) : Calls Tryz.prog 126 #[.agg t.c] w fun e w' => e = .returned (.bool (ownB t ib gb lb sb)) ∧ Below w.heap.size w w' := by
  have hh : Hid (ownB t ib gb lb sb = false) := by unfold Hid ownB; rw [hx.1, hx.2.1, hx.2.2]; simp [h0, h1, h2, h5, hn]
  have he : t.s.toList.isEmpty = true := hx.1
  have he2 : (t.s.toList == []) = true := by have := hx.1; cases hq : t.s.toList <;> simp_all
  have hl2 : decide ((0 : Int) < t.ln) = (!l) := (dec_l hx.2.1).1
  have hl3 : decide (0 < t.ln) = (!l) := (dec_l hx.2.1).2
  have hm2 : decide ((0 : Int) < t.mn) = (!false) := (dec_l hx.2.2).1
  have hm3 : decide (0 < t.mn) = (!false) := (dec_l hx.2.2).2
  clear hx
  skip
  have hS : Sees w (w.alloc (Obj.cells t.c 38)) [(w.heap.size, Obj.cells t.c 38)] := (Sees.start w).alloc _
  have c0 : (w.alloc (Obj.cells t.c 38)).cell? ⟨w.heap.size, 0, none⟩ = some (.int .i64 t.k) := cell_of_row _ _ _ _ _ _ hS.g0
  have c1 : (w.alloc (Obj.cells t.c 38)).cell? ⟨w.heap.size, 1, none⟩ = some (.int .i64 t.n) := cell_of_row _ _ _ _ _ _ hS.g0
  have c2 : (w.alloc (Obj.cells t.c 38)).cell? ⟨w.heap.size, 2, none⟩ = some (.string t.s) := cell_of_row _ _ _ _ _ _ hS.g0
  have c3 : (w.alloc (Obj.cells t.c 38)).cell? ⟨w.heap.size, 3, none⟩ = some (.slice t.lA t.ln t.lc) := cell_of_row _ _ _ _ _ _ hS.g0
  have c4 : (w.alloc (Obj.cells t.c 38)).cell? ⟨w.heap.size, 4, none⟩ = some (.slice t.mA t.mn t.mc) := cell_of_row _ _ _ _ _ _ hS.g0
  go_enter Tryz.func126, Tryz.ntmps126
  go_wp2_with fail
  generalize w.alloc (Obj.cells t.c 38) = W at *
  have k2 := cell_regrown c2
  have k3 := cell_regrown c3
  have k4 := cell_regrown c4
  refine wp_region_quiet_below (by kernel_rfl) (by kernel_rfl) ?_
  repeat (first | go_big_quiet_step (fail) | quiet_step (fail))
  refine wpQuiet_nil ?_; rintro wq ⟨⟨dq, osq⟩, rfl⟩; have hbq := below_regrown W dq osq; generalize Go.Sort.grow (redrawn W dq) osq = wq at *
  have hS := hS.step hbq
  clear c0 c1 c2 c3 c4 k2 k3 k4
  have c0 : wq.cell? ⟨w.heap.size, 0, none⟩ = some (.int .i64 t.k) := cell_of_row _ _ _ _ _ _ hS.g0
  have c1 : wq.cell? ⟨w.heap.size, 1, none⟩ = some (.int .i64 t.n) := cell_of_row _ _ _ _ _ _ hS.g0
  have c2 : wq.cell? ⟨w.heap.size, 2, none⟩ = some (.string t.s) := cell_of_row _ _ _ _ _ _ hS.g0
  go_wp2_with fail
  go_ret
  exact ⟨ret_bool hh.out.symm, hS.below⟩
set_option maxRecDepth 100000 in
set_option maxHeartbeats 1000000 in
theorem own_5at (h0 : (t.k == 0) = false) (h1 : (t.k == 1) = false) (h2 : (t.k == 2) = false) (h5 : (t.k == 5) = true) (hn : (t.n == 0) = true) (l : Bool) (hx : Fx t true l true) : Calls Tryz.prog 126 #[.agg t.c] w fun e w' => e = .returned (.bool (ownB t ib gb lb sb)) ∧ Below w.heap.size w w' := by
  have hh : Hid (ownB t ib gb lb sb = true) := by unfold Hid ownB; rw [hx.1, hx.2.1, hx.2.2]; simp [h0, h1, h2, h5, hn]
  have he : t.s.toList.isEmpty = true := hx.1
  have he2 : (t.s.toList == []) = true := by have := hx.1; cases hq : t.s.toList <;> simp_all
  have hl2 : decide ((0 : Int) < t.ln) = (!l) := (dec_l hx.2.1).1
  have hl3 : decide (0 < t.ln) = (!l) := (dec_l hx.2.1).2
  have hm2 : decide ((0 : Int) < t.mn) = (!true) := (dec_l hx.2.2).1
  have hm3 : decide (0 < t.mn) = (!true) := (dec_l hx.2.2).2
  clear hx
  skip
  have hS : Sees w (w.alloc (Obj.cells t.c 38)) [(w.heap.size, Obj.cells t.c 38)] := (Sees.start w).alloc _
  have c0 : (w.alloc (Obj.cells t.c 38)).cell? ⟨w.heap.size, 0, none⟩ = some (.int .i64 t.k) := cell_of_row _ _ _ _ _ _ hS.g0
  have c1 : (w.alloc (Obj.cells t.c 38)).cell? ⟨w.heap.size, 1, none⟩ = some (.int .i64 t.n) := cell_of_row _ _ _ _ _ _ hS.g0
  have c2 : (w.alloc (Obj.cells t.c 38)).cell? ⟨w.heap.size, 2, none⟩ = some (.string t.s) := cell_of_row _ _ _ _ _ _ hS.g0
  have c3 : (w.alloc (Obj.cells t.c 38)).cell? ⟨w.heap.size, 3, none⟩ = some (.slice t.lA t.ln t.lc) := cell_of_row _ _ _ _ _ _ hS.g0
  have c4 : (w.alloc (Obj.cells t.c 38)).cell? ⟨w.heap.size, 4, none⟩ = some (.slice t.mA t.mn t.mc) := cell_of_row _ _ _ _ _ _ hS.g0
  go_enter Tryz.func126, Tryz.ntmps126
  go_wp2_with fail
  generalize w.alloc (Obj.cells t.c 38) = W at *
  have k2 := cell_regrown c2
  have k3 := cell_regrown c3
  have k4 := cell_regrown c4
  refine wp_region_quiet_below (by kernel_rfl) (by kernel_rfl) ?_
  repeat (first | go_big_quiet_step (fail) | quiet_step (fail))
  refine wpQuiet_nil ?_; rintro wq ⟨⟨dq, osq⟩, rfl⟩; have hbq := below_regrown W dq osq; generalize Go.Sort.grow (redrawn W dq) osq = wq at *
  have hS := hS.step hbq
  clear c0 c1 c2 c3 c4 k2 k3 k4
  have c0 : wq.cell? ⟨w.heap.size, 0, none⟩ = some (.int .i64 t.k) := cell_of_row _ _ _ _ _ _ hS.g0
  have c1 : wq.cell? ⟨w.heap.size, 1, none⟩ = some (.int .i64 t.n) := cell_of_row _ _ _ _ _ _ hS.g0
  have c2 : wq.cell? ⟨w.heap.size, 2, none⟩ = some (.string t.s) := cell_of_row _ _ _ _ _ _ hS.g0
  go_wp2_with fail
  go_ret
  exact ⟨ret_bool hh.out.symm, hS.below⟩
set_option maxRecDepth 100000 in
set_option maxHeartbeats 1000000 in
theorem own_5n (h0 : (t.k == 0) = false) (h1 : (t.k == 1) = false) (h2 : (t.k == 2) = false) (h5 : (t.k == 5) = true) (hn : (t.n == 0) = false) (e l m : Bool) (hx : Fx t e l m) : Calls Tryz.prog 126 #[.agg t.c] w fun e w' => e = .returned (.bool (ownB t ib gb lb sb)) ∧ Below w.heap.size w w' := by
  have hh : Hid (ownB t ib gb lb sb = false) := by unfold Hid ownB; rw [hx.1, hx.2.1, hx.2.2]; simp [h0, h1, h2, h5, hn]
  have he : t.s.toList.isEmpty = e := hx.1
  have he2 : (t.s.toList == []) = e := by have := hx.1; cases hq : t.s.toList <;> simp_all
  have hl2 : decide ((0 : Int) < t.ln) = (!l) := (dec_l hx.2.1).1
  have hl3 : decide (0 < t.ln) = (!l) := (dec_l hx.2.1).2
  have hm2 : decide ((0 : Int) < t.mn) = (!m) := (dec_l hx.2.2).1
  have hm3 : decide (0 < t.mn) = (!m) := (dec_l hx.2.2).2
  clear hx
  skip
  have hS : Sees w (w.alloc (Obj.cells t.c 38)) [(w.heap.size, Obj.cells t.c 38)] := (Sees.start w).alloc _
  have c0 : (w.alloc (Obj.cells t.c 38)).cell? ⟨w.heap.size, 0, none⟩ = some (.int .i64 t.k) := cell_of_row _ _ _ _ _ _ hS.g0
  have c1 : (w.alloc (Obj.cells t.c 38)).cell? ⟨w.heap.size, 1, none⟩ = some (.int .i64 t.n) := cell_of_row _ _ _ _ _ _ hS.g0
  have c2 : (w.alloc (Obj.cells t.c 38)).cell? ⟨w.heap.size, 2, none⟩ = some (.string t.s) := cell_of_row _ _ _ _ _ _ hS.g0
  have c3 : (w.alloc (Obj.cells t.c 38)).cell? ⟨w.heap.size, 3, none⟩ = some (.slice t.lA t.ln t.lc) := cell_of_row _ _ _ _ _ _ hS.g0
  have c4 : (w.alloc (Obj.cells t.c 38)).cell? ⟨w.heap.size, 4, none⟩ = some (.slice t.mA t.mn t.mc) := cell_of_row _ _ _ _ _ _ hS.g0
  go_enter Tryz.func126, Tryz.ntmps126
  go_wp2_with fail
  generalize w.alloc (Obj.cells t.c 38) = W at *
  have k2 := cell_regrown c2
  have k3 := cell_regrown c3
  have k4 := cell_regrown c4
  refine wp_region_quiet_below (by kernel_rfl) (by kernel_rfl) ?_
  repeat (first | go_big_quiet_step (fail) | quiet_step (fail))
  refine wpQuiet_nil ?_; rintro wq ⟨⟨dq, osq⟩, rfl⟩; have hbq := below_regrown W dq osq; generalize Go.Sort.grow (redrawn W dq) osq = wq at *
  have hS := hS.step hbq
  clear c0 c1 c2 c3 c4 k2 k3 k4
  have c0 : wq.cell? ⟨w.heap.size, 0, none⟩ = some (.int .i64 t.k) := cell_of_row _ _ _ _ _ _ hS.g0
  have c1 : wq.cell? ⟨w.heap.size, 1, none⟩ = some (.int .i64 t.n) := cell_of_row _ _ _ _ _ _ hS.g0
  have c2 : wq.cell? ⟨w.heap.size, 2, none⟩ = some (.string t.s) := cell_of_row _ _ _ _ _ _ hS.g0
  go_wp2_with fail
  go_ret
  exact ⟨ret_bool hh.out.symm, hS.below⟩
set_option maxRecDepth 100000 in
set_option maxHeartbeats 1000000 in
theorem own_6ae (h0 : (t.k == 0) = false) (h1 : (t.k == 1) = false) (h2 : (t.k == 2) = false) (h5 : (t.k == 5) = false) (h6 : (t.k == 6) = true) (hn : (t.n == 0) = true) (l m : Bool) (hx : Fx t false l m) : Calls Tryz.prog 126 #[.agg t.c] w fun e w' => e = .returned (.bool (ownB t ib gb lb sb)) ∧ Below w.heap.size w w' := by
  have hh : Hid (ownB t ib gb lb sb = false) := by unfold Hid ownB; rw [hx.1, hx.2.1, hx.2.2]; simp [h0, h1, h2, h5, h6, hn]
  have he : t.s.toList.isEmpty = false := hx.1
  have he2 : (t.s.toList == []) = false := by have := hx.1; cases hq : t.s.toList <;> simp_all
  have hl2 : decide ((0 : Int) < t.ln) = (!l) := (dec_l hx.2.1).1
  have hl3 : decide (0 < t.ln) = (!l) := (dec_l hx.2.1).2
  have hm2 : decide ((0 : Int) < t.mn) = (!m) := (dec_l hx.2.2).1
  have hm3 : decide (0 < t.mn) = (!m) := (dec_l hx.2.2).2
  clear hx
  skip
  have hS : Sees w (w.alloc (Obj.cells t.c 38)) [(w.heap.size, Obj.cells t.c 38)] := (Sees.start w).alloc _
  have c0 : (w.alloc (Obj.cells t.c 38)).cell? ⟨w.heap.size, 0, none⟩ = some (.int .i64 t.k) := cell_of_row _ _ _ _ _ _ hS.g0
  have c1 : (w.alloc (Obj.cells t.c 38)).cell? ⟨w.heap.size, 1, none⟩ = some (.int .i64 t.n) := cell_of_row _ _ _ _ _ _ hS.g0
  have c2 : (w.alloc (Obj.cells t.c 38)).cell? ⟨w.heap.size, 2, none⟩ = some (.string t.s) := cell_of_row _ _ _ _ _ _ hS.g0
  have c3 : (w.alloc (Obj.cells t.c 38)).cell? ⟨w.heap.size, 3, none⟩ = some (.slice t.lA t.ln t.lc) := cell_of_row _ _ _ _ _ _ hS.g0
  have c4 : (w.alloc (Obj.cells t.c 38)).cell? ⟨w.heap.size, 4, none⟩ = some (.slice t.mA t.mn t.mc) := cell_of_row _ _ _ _ _ _ hS.g0
  go_enter Tryz.func126, Tryz.ntmps126
  go_wp2_with fail
  generalize w.alloc (Obj.cells t.c 38) = W at *
  have k2 := cell_regrown c2
  have k3 := cell_regrown c3
  have k4 := cell_regrown c4
  refine wp_region_quiet_below (by kernel_rfl) (by kernel_rfl) ?_
  repeat (first | go_big_quiet_step (fail) | quiet_step (fail))
  refine wpQuiet_nil ?_; rintro wq ⟨⟨dq, osq⟩, rfl⟩; have hbq := below_regrown W dq osq; generalize Go.Sort.grow (redrawn W dq) osq = wq at *
  have hS := hS.step hbq
  clear c0 c1 c2 c3 c4 k2 k3 k4
  have c0 : wq.cell? ⟨w.heap.size, 0, none⟩ = some (.int .i64 t.k) := cell_of_row _ _ _ _ _ _ hS.g0
  have c1 : wq.cell? ⟨w.heap.size, 1, none⟩ = some (.int .i64 t.n) := cell_of_row _ _ _ _ _ _ hS.g0
  have c2 : wq.cell? ⟨w.heap.size, 2, none⟩ = some (.string t.s) := cell_of_row _ _ _ _ _ _ hS.g0
  go_wp2_with fail
  go_ret
  exact ⟨ret_bool hh.out.symm, hS.below⟩
set_option maxRecDepth 100000 in
set_option maxHeartbeats 1000000 in
theorem own_6al (h0 : (t.k == 0) = false) (h1 : (t.k == 1) = false) (h2 : (t.k == 2) = false) (h5 : (t.k == 5) = false) (h6 : (t.k == 6) = true) (hn : (t.n == 0) = true) (m : Bool) (hx : Fx t true false m) : Calls Tryz.prog 126 #[.agg t.c] w fun e w' => e = .returned (.bool (ownB t ib gb lb sb)) ∧ Below w.heap.size w w' := by
  have hh : Hid (ownB t ib gb lb sb = false) := by unfold Hid ownB; rw [hx.1, hx.2.1, hx.2.2]; simp [h0, h1, h2, h5, h6, hn]
  have he : t.s.toList.isEmpty = true := hx.1
  have he2 : (t.s.toList == []) = true := by have := hx.1; cases hq : t.s.toList <;> simp_all
  have hl2 : decide ((0 : Int) < t.ln) = (!false) := (dec_l hx.2.1).1
  have hl3 : decide (0 < t.ln) = (!false) := (dec_l hx.2.1).2
  have hm2 : decide ((0 : Int) < t.mn) = (!m) := (dec_l hx.2.2).1
  have hm3 : decide (0 < t.mn) = (!m) := (dec_l hx.2.2).2
  clear hx
  skip
  have hS : Sees w (w.alloc (Obj.cells t.c 38)) [(w.heap.size, Obj.cells t.c 38)] := (Sees.start w).alloc _
  have c0 : (w.alloc (Obj.cells t.c 38)).cell? ⟨w.heap.size, 0, none⟩ = some (.int .i64 t.k) := cell_of_row _ _ _ _ _ _ hS.g0
  have c1 : (w.alloc (Obj.cells t.c 38)).cell? ⟨w.heap.size, 1, none⟩ = some (.int .i64 t.n) := cell_of_row _ _ _ _ _ _ hS.g0
  have c2 : (w.alloc (Obj.cells t.c 38)).cell? ⟨w.heap.size, 2, none⟩ = some (.string t.s) := cell_of_row _ _ _ _ _ _ hS.g0
  have c3 : (w.alloc (Obj.cells t.c 38)).cell? ⟨w.heap.size, 3, none⟩ = some (.slice t.lA t.ln t.lc) := cell_of_row _ _ _ _ _ _ hS.g0
  have c4 : (w.alloc (Obj.cells t.c 38)).cell? ⟨w.heap.size, 4, none⟩ = some (.slice t.mA t.mn t.mc) := cell_of_row _ _ _ _ _ _ hS.g0
  go_enter Tryz.func126, Tryz.ntmps126
  go_wp2_with fail
  generalize w.alloc (Obj.cells t.c 38) = W at *
  have k2 := cell_regrown c2
  have k3 := cell_regrown c3
  have k4 := cell_regrown c4
  refine wp_region_quiet_below (by kernel_rfl) (by kernel_rfl) ?_
  repeat (first | go_big_quiet_step (fail) | quiet_step (fail))
  refine wpQuiet_nil ?_; rintro wq ⟨⟨dq, osq⟩, rfl⟩; have hbq := below_regrown W dq osq; generalize Go.Sort.grow (redrawn W dq) osq = wq at *
  have hS := hS.step hbq
  clear c0 c1 c2 c3 c4 k2 k3 k4
  have c0 : wq.cell? ⟨w.heap.size, 0, none⟩ = some (.int .i64 t.k) := cell_of_row _ _ _ _ _ _ hS.g0
  have c1 : wq.cell? ⟨w.heap.size, 1, none⟩ = some (.int .i64 t.n) := cell_of_row _ _ _ _ _ _ hS.g0
  have c2 : wq.cell? ⟨w.heap.size, 2, none⟩ = some (.string t.s) := cell_of_row _ _ _ _ _ _ hS.g0
  go_wp2_with fail
  go_ret
  exact ⟨ret_bool hh.out.symm, hS.below⟩
set_option maxRecDepth 100000 in
set_option maxHeartbeats 1000000 in
theorem own_6at (h0 : (t.k == 0) = false) (h1 : (t.k == 1) = false) (h2 : (t.k == 2) = false) (h5 : (t.k == 5) = false) (h6 : (t.k == 6) = true) (hn : (t.n == 0) = true) (m : Bool) (hx : Fx t true true m) : Calls Tryz.prog 126 #[.agg t.c] w fun e w' => e = .returned (.bool (ownB t ib gb lb sb)) ∧ Below w.heap.size w w' := by
  have hh : Hid (ownB t ib gb lb sb = true) := by unfold Hid ownB; rw [hx.1, hx.2.1, hx.2.2]; simp [h0, h1, h2, h5, h6, hn]
  have he : t.s.toList.isEmpty = true := hx.1
  have he2 : (t.s.toList == []) = true := by have := hx.1; cases hq : t.s.toList <;> simp_all
  have hl2 : decide ((0 : Int) < t.ln) = (!true) := (dec_l hx.2.1).1
  have hl3 : decide (0 < t.ln) = (!true) := (dec_l hx.2.1).2
  have hm2 : decide ((0 : Int) < t.mn) = (!m) := (dec_l hx.2.2).1
  have hm3 : decide (0 < t.mn) = (!m) := (dec_l hx.2.2).2
  clear hx
  skip
  have hS : Sees w (w.alloc (Obj.cells t.c 38)) [(w.heap.size, Obj.cells t.c 38)] := (Sees.start w).alloc _
  have c0 : (w.alloc (Obj.cells t.c 38)).cell? ⟨w.heap.size, 0, none⟩ = some (.int .i64 t.k) := cell_of_row _ _ _ _ _ _ hS.g0
  have c1 : (w.alloc (Obj.cells t.c 38)).cell? ⟨w.heap.size, 1, none⟩ = some (.int .i64 t.n) := cell_of_row _ _ _ _ _ _ hS.g0
  have c2 : (w.alloc (Obj.cells t.c 38)).cell? ⟨w.heap.size, 2, none⟩ = some (.string t.s) := cell_of_row _ _ _ _ _ _ hS.g0
  have c3 : (w.alloc (Obj.cells t.c 38)).cell? ⟨w.heap.size, 3, none⟩ = some (.slice t.lA t.ln t.lc) := cell_of_row _ _ _ _ _ _ hS.g0
  have c4 : (w.alloc (Obj.cells t.c 38)).cell? ⟨w.heap.size, 4, none⟩ = some (.slice t.mA t.mn t.mc) := cell_of_row _ _ _ _ _ _ hS.g0
  go_enter Tryz.func126, Tryz.ntmps126
  go_wp2_with fail
  generalize w.alloc (Obj.cells t.c 38) = W at *
  have k2 := cell_regrown c2
  have k3 := cell_regrown c3
  have k4 := cell_regrown c4
  refine wp_region_quiet_below (by kernel_rfl) (by kernel_rfl) ?_
  repeat (first | go_big_quiet_step (fail) | quiet_step (fail))
  refine wpQuiet_nil ?_; rintro wq ⟨⟨dq, osq⟩, rfl⟩; have hbq := below_regrown W dq osq; generalize Go.Sort.grow (redrawn W dq) osq = wq at *
  have hS := hS.step hbq
  clear c0 c1 c2 c3 c4 k2 k3 k4
  have c0 : wq.cell? ⟨w.heap.size, 0, none⟩ = some (.int .i64 t.k) := cell_of_row _ _ _ _ _ _ hS.g0
  have c1 : wq.cell? ⟨w.heap.size, 1, none⟩ = some (.int .i64 t.n) := cell_of_row _ _ _ _ _ _ hS.g0
  have c2 : wq.cell? ⟨w.heap.size, 2, none⟩ = some (.string t.s) := cell_of_row _ _ _ _ _ _ hS.g0
  go_wp2_with fail
  go_ret
  exact ⟨ret_bool hh.out.symm, hS.below⟩
set_option maxRecDepth 100000 in
set_option maxHeartbeats 1000000 in
theorem own_6n (h0 : (t.k == 0) = false) (h1 : (t.k == 1) = false) (h2 : (t.k == 2) = false) (h5 : (t.k == 5) = false) (h6 : (t.k == 6) = true) (hn : (t.n == 0) = false) (e l m : Bool) (hx : Fx t e l m) : Calls Tryz.prog 126 #[.agg t.c] w fun e w' => e = .returned (.bool (ownB t ib gb lb sb)) ∧ Below w.heap.size w w' := by
  have hh : Hid (ownB t ib gb lb sb = false) := by unfold Hid ownB; rw [hx.1, hx.2.1, hx.2.2]; simp [h0, h1, h2, h5, h6, hn]
  have he : t.s.toList.isEmpty = e := hx.1
  have he2 : (t.s.toList == []) = e := by have := hx.1; cases hq : t.s.toList <;> simp_all
  have hl2 : decide ((0 : Int) < t.ln) = (!l) := (dec_l hx.2.1).1
  have hl3 : decide (0 < t.ln) = (!l) := (dec_l hx.2.1).2
  have hm2 : decide ((0 : Int) < t.mn) = (!m) := (dec_l hx.2.2).1
  have hm3 : decide (0 < t.mn) = (!m) := (dec_l hx.2.2).2
  clear hx
  skip
  have hS : Sees w (w.alloc (Obj.cells t.c 38)) [(w.heap.size, Obj.cells t.c 38)] := (Sees.start w).alloc _
  have c0 : (w.alloc (Obj.cells t.c 38)).cell? ⟨w.heap.size, 0, none⟩ = some (.int .i64 t.k) := cell_of_row _ _ _ _ _ _ hS.g0
  have c1 : (w.alloc (Obj.cells t.c 38)).cell? ⟨w.heap.size, 1, none⟩ = some (.int .i64 t.n) := cell_of_row _ _ _ _ _ _ hS.g0
  have c2 : (w.alloc (Obj.cells t.c 38)).cell? ⟨w.heap.size, 2, none⟩ = some (.string t.s) := cell_of_row _ _ _ _ _ _ hS.g0
  have c3 : (w.alloc (Obj.cells t.c 38)).cell? ⟨w.heap.size, 3, none⟩ = some (.slice t.lA t.ln t.lc) := cell_of_row _ _ _ _ _ _ hS.g0
  have c4 : (w.alloc (Obj.cells t.c 38)).cell? ⟨w.heap.size, 4, none⟩ = some (.slice t.mA t.mn t.mc) := cell_of_row _ _ _ _ _ _ hS.g0
  go_enter Tryz.func126, Tryz.ntmps126
  go_wp2_with fail
  generalize w.alloc (Obj.cells t.c 38) = W at *
  have k2 := cell_regrown c2
  have k3 := cell_regrown c3
  have k4 := cell_regrown c4
  refine wp_region_quiet_below (by kernel_rfl) (by kernel_rfl) ?_
  repeat (first | go_big_quiet_step (fail) | quiet_step (fail))
  refine wpQuiet_nil ?_; rintro wq ⟨⟨dq, osq⟩, rfl⟩; have hbq := below_regrown W dq osq; generalize Go.Sort.grow (redrawn W dq) osq = wq at *
  have hS := hS.step hbq
  clear c0 c1 c2 c3 c4 k2 k3 k4
  have c0 : wq.cell? ⟨w.heap.size, 0, none⟩ = some (.int .i64 t.k) := cell_of_row _ _ _ _ _ _ hS.g0
  have c1 : wq.cell? ⟨w.heap.size, 1, none⟩ = some (.int .i64 t.n) := cell_of_row _ _ _ _ _ _ hS.g0
  have c2 : wq.cell? ⟨w.heap.size, 2, none⟩ = some (.string t.s) := cell_of_row _ _ _ _ _ _ hS.g0
  go_wp2_with fail
  go_ret
  exact ⟨ret_bool hh.out.symm, hS.below⟩
set_option maxRecDepth 100000 in
set_option maxHeartbeats 1000000 in
theorem own_on (h0 : (t.k == 0) = false) (h1 : (t.k == 1) = false) (h2 : (t.k == 2) = false) (h5 : (t.k == 5) = false) (h6 : (t.k == 6) = false) (hn : (t.n == 0) = false) (e l m : Bool) (hx : Fx t e l m) : Calls Tryz.prog 126 #[.agg t.c] w fun e w' => e = .returned (.bool (ownB t ib gb lb sb)) ∧ Below w.heap.size w w' := by
  have hh : Hid (ownB t ib gb lb sb = false) := by unfold Hid ownB; rw [hx.1, hx.2.1, hx.2.2]; simp [h0, h1, h2, h5, h6, hn]
  have he : t.s.toList.isEmpty = e := hx.1
  have he2 : (t.s.toList == []) = e := by have := hx.1; cases hq : t.s.toList <;> simp_all
  have hl2 : decide ((0 : Int) < t.ln) = (!l) := (dec_l hx.2.1).1
  have hl3 : decide (0 < t.ln) = (!l) := (dec_l hx.2.1).2
  have hm2 : decide ((0 : Int) < t.mn) = (!m) := (dec_l hx.2.2).1
  have hm3 : decide (0 < t.mn) = (!m) := (dec_l hx.2.2).2
  clear hx
  have hnb : (t.n != 0) = true := by rw [bne, hn]; rfl
  have hS : Sees w (w.alloc (Obj.cells t.c 38)) [(w.heap.size, Obj.cells t.c 38)] := (Sees.start w).alloc _
  have c0 : (w.alloc (Obj.cells t.c 38)).cell? ⟨w.heap.size, 0, none⟩ = some (.int .i64 t.k) := cell_of_row _ _ _ _ _ _ hS.g0
  have c1 : (w.alloc (Obj.cells t.c 38)).cell? ⟨w.heap.size, 1, none⟩ = some (.int .i64 t.n) := cell_of_row _ _ _ _ _ _ hS.g0
  have c2 : (w.alloc (Obj.cells t.c 38)).cell? ⟨w.heap.size, 2, none⟩ = some (.string t.s) := cell_of_row _ _ _ _ _ _ hS.g0
  have c3 : (w.alloc (Obj.cells t.c 38)).cell? ⟨w.heap.size, 3, none⟩ = some (.slice t.lA t.ln t.lc) := cell_of_row _ _ _ _ _ _ hS.g0
  have c4 : (w.alloc (Obj.cells t.c 38)).cell? ⟨w.heap.size, 4, none⟩ = some (.slice t.mA t.mn t.mc) := cell_of_row _ _ _ _ _ _ hS.g0
  go_enter Tryz.func126, Tryz.ntmps126
  go_wp2_with fail
  generalize w.alloc (Obj.cells t.c 38) = W at *
  have k2 := cell_regrown c2
  have k3 := cell_regrown c3
  have k4 := cell_regrown c4
  refine wp_region_quiet_below (by kernel_rfl) (by kernel_rfl) ?_
  repeat (first | go_big_quiet_step (fail) | quiet_step (fail))
  refine wpQuiet_nil ?_; rintro wq ⟨⟨dq, osq⟩, rfl⟩; have hbq := below_regrown W dq osq; generalize Go.Sort.grow (redrawn W dq) osq = wq at *
  have hS := hS.step hbq
  clear c0 c1 c2 c3 c4 k2 k3 k4
  have c0 : wq.cell? ⟨w.heap.size, 0, none⟩ = some (.int .i64 t.k) := cell_of_row _ _ _ _ _ _ hS.g0
  have c1 : wq.cell? ⟨w.heap.size, 1, none⟩ = some (.int .i64 t.n) := cell_of_row _ _ _ _ _ _ hS.g0
  have c2 : wq.cell? ⟨w.heap.size, 2, none⟩ = some (.string t.s) := cell_of_row _ _ _ _ _ _ hS.g0
  go_wp2_with fail
  go_ret
  exact ⟨ret_bool hh.out.symm, hS.below⟩
set_option maxRecDepth 100000 in
set_option maxHeartbeats 1000000 in
theorem own_ol (h0 : (t.k == 0) = false) (h1 : (t.k == 1) = false) (h2 : (t.k == 2) = false) (h5 : (t.k == 5) = false) (h6 : (t.k == 6) = false) (hn : (t.n == 0) = true) (e m : Bool) (hx : Fx t e false m) : Calls Tryz.prog 126 #[.agg t.c] w fun e w' => e = .returned (.bool (ownB t ib gb lb sb)) ∧ Below w.heap.size w w' := by
  have hh : Hid (ownB t ib gb lb sb = false) := by unfold Hid ownB; rw [hx.1, hx.2.1, hx.2.2]; simp [h0, h1, h2, h5, h6, hn]
  have he : t.s.toList.isEmpty = e := hx.1
  have he2 : (t.s.toList == []) = e := by have := hx.1; cases hq : t.s.toList <;> simp_all
  have hl2 : decide ((0 : Int) < t.ln) = (!false) := (dec_l hx.2.1).1
  have hl3 : decide (0 < t.ln) = (!false) := (dec_l hx.2.1).2
  have hm2 : decide ((0 : Int) < t.mn) = (!m) := (dec_l hx.2.2).1
  have hm3 : decide (0 < t.mn) = (!m) := (dec_l hx.2.2).2
  clear hx
  have hnb : (t.n != 0) = false := by rw [bne, hn]; rfl
  have hS : Sees w (w.alloc (Obj.cells t.c 38)) [(w.heap.size, Obj.cells t.c 38)] := (Sees.start w).alloc _
  have c0 : (w.alloc (Obj.cells t.c 38)).cell? ⟨w.heap.size, 0, none⟩ = some (.int .i64 t.k) := cell_of_row _ _ _ _ _ _ hS.g0
  have c1 : (w.alloc (Obj.cells t.c 38)).cell? ⟨w.heap.size, 1, none⟩ = some (.int .i64 t.n) := cell_of_row _ _ _ _ _ _ hS.g0
  have c2 : (w.alloc (Obj.cells t.c 38)).cell? ⟨w.heap.size, 2, none⟩ = some (.string t.s) := cell_of_row _ _ _ _ _ _ hS.g0
  have c3 : (w.alloc (Obj.cells t.c 38)).cell? ⟨w.heap.size, 3, none⟩ = some (.slice t.lA t.ln t.lc) := cell_of_row _ _ _ _ _ _ hS.g0
  have c4 : (w.alloc (Obj.cells t.c 38)).cell? ⟨w.heap.size, 4, none⟩ = some (.slice t.mA t.mn t.mc) := cell_of_row _ _ _ _ _ _ hS.g0
  go_enter Tryz.func126, Tryz.ntmps126
  go_wp2_with fail
  generalize w.alloc (Obj.cells t.c 38) = W at *
  have k2 := cell_regrown c2
  have k3 := cell_regrown c3
  have k4 := cell_regrown c4
  refine wp_region_quiet_below (by kernel_rfl) (by kernel_rfl) ?_
  repeat (first | go_big_quiet_step (fail) | quiet_step (fail))
  refine wpQuiet_nil ?_; rintro wq ⟨⟨dq, osq⟩, rfl⟩; have hbq := below_regrown W dq osq; generalize Go.Sort.grow (redrawn W dq) osq = wq at *
  have hS := hS.step hbq
  clear c0 c1 c2 c3 c4 k2 k3 k4
  have c0 : wq.cell? ⟨w.heap.size, 0, none⟩ = some (.int .i64 t.k) := cell_of_row _ _ _ _ _ _ hS.g0
  have c1 : wq.cell? ⟨w.heap.size, 1, none⟩ = some (.int .i64 t.n) := cell_of_row _ _ _ _ _ _ hS.g0
  have c2 : wq.cell? ⟨w.heap.size, 2, none⟩ = some (.string t.s) := cell_of_row _ _ _ _ _ _ hS.g0
  go_wp2_with fail
  go_ret
  exact ⟨ret_bool hh.out.symm, hS.below⟩
set_option maxRecDepth 100000 in
set_option maxHeartbeats 1000000 in
theorem own_om (h0 : (t.k == 0) = false) (h1 : (t.k == 1) = false) (h2 : (t.k == 2) = false) (h5 : (t.k == 5) = false) (h6 : (t.k == 6) = false) (hn : (t.n == 0) = true) (e : Bool) (hx : Fx t e true false) : Calls Tryz.prog 126 #[.agg t.c] w fun e w' => e = .returned (.bool (ownB t ib gb lb sb)) ∧ Below w.heap.size w w' := by
  have hh : Hid (ownB t ib gb lb sb = false) := by unfold Hid ownB; rw [hx.1, hx.2.1, hx.2.2]; simp [h0, h1, h2, h5, h6, hn]
  have he : t.s.toList.isEmpty = e := hx.1
  have he2 : (t.s.toList == []) = e := by have := hx.1; cases hq : t.s.toList <;> simp_all
  have hl2 : decide ((0 : Int) < t.ln) = (!true) := (dec_l hx.2.1).1
  have hl3 : decide (0 < t.ln) = (!true) := (dec_l hx.2.1).2
  have hm2 : decide ((0 : Int) < t.mn) = (!false) := (dec_l hx.2.2).1
  have hm3 : decide (0 < t.mn) = (!false) := (dec_l hx.2.2).2
  clear hx
  have hnb : (t.n != 0) = false := by rw [bne, hn]; rfl
  have hS : Sees w (w.alloc (Obj.cells t.c 38)) [(w.heap.size, Obj.cells t.c 38)] := (Sees.start w).alloc _
  have c0 : (w.alloc (Obj.cells t.c 38)).cell? ⟨w.heap.size, 0, none⟩ = some (.int .i64 t.k) := cell_of_row _ _ _ _ _ _ hS.g0
  have c1 : (w.alloc (Obj.cells t.c 38)).cell? ⟨w.heap.size, 1, none⟩ = some (.int .i64 t.n) := cell_of_row _ _ _ _ _ _ hS.g0
  have c2 : (w.alloc (Obj.cells t.c 38)).cell? ⟨w.heap.size, 2, none⟩ = some (.string t.s) := cell_of_row _ _ _ _ _ _ hS.g0
  have c3 : (w.alloc (Obj.cells t.c 38)).cell? ⟨w.heap.size, 3, none⟩ = some (.slice t.lA t.ln t.lc) := cell_of_row _ _ _ _ _ _ hS.g0
  have c4 : (w.alloc (Obj.cells t.c 38)).cell? ⟨w.heap.size, 4, none⟩ = some (.slice t.mA t.mn t.mc) := cell_of_row _ _ _ _ _ _ hS.g0
  go_enter Tryz.func126, Tryz.ntmps126
  go_wp2_with fail
  generalize w.alloc (Obj.cells t.c 38) = W at *
  have k2 := cell_regrown c2
  have k3 := cell_regrown c3
  have k4 := cell_regrown c4
  refine wp_region_quiet_below (by kernel_rfl) (by kernel_rfl) ?_
  repeat (first | go_big_quiet_step (fail) | quiet_step (fail))
  refine wpQuiet_nil ?_; rintro wq ⟨⟨dq, osq⟩, rfl⟩; have hbq := below_regrown W dq osq; generalize Go.Sort.grow (redrawn W dq) osq = wq at *
  have hS := hS.step hbq
  clear c0 c1 c2 c3 c4 k2 k3 k4
  have c0 : wq.cell? ⟨w.heap.size, 0, none⟩ = some (.int .i64 t.k) := cell_of_row _ _ _ _ _ _ hS.g0
  have c1 : wq.cell? ⟨w.heap.size, 1, none⟩ = some (.int .i64 t.n) := cell_of_row _ _ _ _ _ _ hS.g0
  have c2 : wq.cell? ⟨w.heap.size, 2, none⟩ = some (.string t.s) := cell_of_row _ _ _ _ _ _ hS.g0
  go_wp2_with fail
  go_ret
  exact ⟨ret_bool hh.out.symm, hS.below⟩
set_option maxRecDepth 100000 in
set_option maxHeartbeats 1000000 in
theorem own_3f (h0 : (t.k == 0) = false) (h1 : (t.k == 1) = false) (h2 : (t.k == 2) = false) (h5 : (t.k == 5) = false) (h6 : (t.k == 6) = false) (hn : (t.n == 0) = true) (h3 : (t.k == 3) = true) (hgb : gb = false) (e : Bool) (hx : Fx t e true true) : Calls Tryz.prog 126 #[.agg t.c] w fun e w' => e = .returned (.bool (ownB t ib gb lb sb)) ∧ Below w.heap.size w w' := by
  have hh : Hid (ownB t ib gb lb sb = false) := by unfold Hid ownB; rw [hx.1, hx.2.1, hx.2.2]; simp [h0, h1, h2, h5, h6, hn, h3, hgb]
  have he : t.s.toList.isEmpty = e := hx.1
  have he2 : (t.s.toList == []) = e := by have := hx.1; cases hq : t.s.toList <;> simp_all
  have hl2 : decide ((0 : Int) < t.ln) = (!true) := (dec_l hx.2.1).1
  have hl3 : decide (0 < t.ln) = (!true) := (dec_l hx.2.1).2
  have hm2 : decide ((0 : Int) < t.mn) = (!true) := (dec_l hx.2.2).1
  have hm3 : decide (0 < t.mn) = (!true) := (dec_l hx.2.2).2
  clear hx
  have hnb : (t.n != 0) = false := by rw [bne, hn]; rfl
  have hS : Sees w (w.alloc (Obj.cells t.c 38)) [(w.heap.size, Obj.cells t.c 38)] := (Sees.start w).alloc _
  have c0 : (w.alloc (Obj.cells t.c 38)).cell? ⟨w.heap.size, 0, none⟩ = some (.int .i64 t.k) := cell_of_row _ _ _ _ _ _ hS.g0
  have c1 : (w.alloc (Obj.cells t.c 38)).cell? ⟨w.heap.size, 1, none⟩ = some (.int .i64 t.n) := cell_of_row _ _ _ _ _ _ hS.g0
  have c2 : (w.alloc (Obj.cells t.c 38)).cell? ⟨w.heap.size, 2, none⟩ = some (.string t.s) := cell_of_row _ _ _ _ _ _ hS.g0
  have c3 : (w.alloc (Obj.cells t.c 38)).cell? ⟨w.heap.size, 3, none⟩ = some (.slice t.lA t.ln t.lc) := cell_of_row _ _ _ _ _ _ hS.g0
  have c4 : (w.alloc (Obj.cells t.c 38)).cell? ⟨w.heap.size, 4, none⟩ = some (.slice t.mA t.mn t.mc) := cell_of_row _ _ _ _ _ _ hS.g0
  go_enter Tryz.func126, Tryz.ntmps126
  go_wp2_with fail
  generalize w.alloc (Obj.cells t.c 38) = W at *
  have k2 := cell_regrown c2
  have k3 := cell_regrown c3
  have k4 := cell_regrown c4
  refine wp_region_quiet_below (by kernel_rfl) (by kernel_rfl) ?_
  repeat (first | go_big_quiet_step (fail) | quiet_step (fail))
  refine wpQuiet_nil ?_; rintro wq ⟨⟨dq, osq⟩, rfl⟩; have hbq := below_regrown W dq osq; generalize Go.Sort.grow (redrawn W dq) osq = wq at *
  have hS := hS.step hbq
  clear c0 c1 c2 c3 c4 k2 k3 k4
  have c0 : wq.cell? ⟨w.heap.size, 0, none⟩ = some (.int .i64 t.k) := cell_of_row _ _ _ _ _ _ hS.g0
  have c1 : wq.cell? ⟨w.heap.size, 1, none⟩ = some (.int .i64 t.n) := cell_of_row _ _ _ _ _ _ hS.g0
  have c2 : wq.cell? ⟨w.heap.size, 2, none⟩ = some (.string t.s) := cell_of_row _ _ _ _ _ _ hS.g0
  go_wp2_with (first | go_skip | (go_at_call 144; with_reducible (refine (HI.out (by simpa using h3) _ hS.below).mono ?_); rintro e wn ⟨⟨r, rfl⟩, hbn⟩; have hS1 := hS.step hbn; clear hS hbn c0 c1 c2; have hS := hS1; clear hS1; have c0 : wn.cell? ⟨w.heap.size, 0, none⟩ = some (.int .i64 t.k) := cell_of_row _ _ _ _ _ _ hS.g0; have c1 : wn.cell? ⟨w.heap.size, 1, none⟩ = some (.int .i64 t.n) := cell_of_row _ _ _ _ _ _ hS.g0; have c2 : wn.cell? ⟨w.heap.size, 2, none⟩ = some (.string t.s) := cell_of_row _ _ _ _ _ _ hS.g0) | (go_at_call 145; with_reducible (refine (HG.out (by simpa using h3) _ hS.below).mono ?_); rintro e wn ⟨rfl, hbn⟩; have hS1 := hS.step hbn; clear hS hbn c0 c1 c2; have hS := hS1; clear hS1; have c0 : wn.cell? ⟨w.heap.size, 0, none⟩ = some (.int .i64 t.k) := cell_of_row _ _ _ _ _ _ hS.g0; have c1 : wn.cell? ⟨w.heap.size, 1, none⟩ = some (.int .i64 t.n) := cell_of_row _ _ _ _ _ _ hS.g0; have c2 : wn.cell? ⟨w.heap.size, 2, none⟩ = some (.string t.s) := cell_of_row _ _ _ _ _ _ hS.g0))
  go_ret
  exact ⟨ret_bool hh.out.symm, hS.below⟩
set_option maxRecDepth 100000 in
set_option maxHeartbeats 1000000 in
theorem own_3t (h0 : (t.k == 0) = false) (h1 : (t.k == 1) = false) (h2 : (t.k == 2) = false) (h5 : (t.k == 5) = false) (h6 : (t.k == 6) = false) (hn : (t.n == 0) = true) (h3 : (t.k == 3) = true) (hgb : gb = true) (e : Bool) (hx : Fx t e true true) : Calls Tryz.prog 126 #[.agg t.c] w fun e w' => e = .returned (.bool (ownB t ib gb lb sb)) ∧ Below w.heap.size w w' := by
  have hh : Hid (ownB t ib gb lb sb = !ib) := by unfold Hid ownB; rw [hx.1, hx.2.1, hx.2.2]; simp [h0, h1, h2, h5, h6, hn, h3, hgb]
  have he : t.s.toList.isEmpty = e := hx.1
  have he2 : (t.s.toList == []) = e := by have := hx.1; cases hq : t.s.toList <;> simp_all
  have hl2 : decide ((0 : Int) < t.ln) = (!true) := (dec_l hx.2.1).1
  have hl3 : decide (0 < t.ln) = (!true) := (dec_l hx.2.1).2
  have hm2 : decide ((0 : Int) < t.mn) = (!true) := (dec_l hx.2.2).1
  have hm3 : decide (0 < t.mn) = (!true) := (dec_l hx.2.2).2
  clear hx
  have hnb : (t.n != 0) = false := by rw [bne, hn]; rfl
  have hS : Sees w (w.alloc (Obj.cells t.c 38)) [(w.heap.size, Obj.cells t.c 38)] := (Sees.start w).alloc _
  have c0 : (w.alloc (Obj.cells t.c 38)).cell? ⟨w.heap.size, 0, none⟩ = some (.int .i64 t.k) := cell_of_row _ _ _ _ _ _ hS.g0
  have c1 : (w.alloc (Obj.cells t.c 38)).cell? ⟨w.heap.size, 1, none⟩ = some (.int .i64 t.n) := cell_of_row _ _ _ _ _ _ hS.g0
  have c2 : (w.alloc (Obj.cells t.c 38)).cell? ⟨w.heap.size, 2, none⟩ = some (.string t.s) := cell_of_row _ _ _ _ _ _ hS.g0
  have c3 : (w.alloc (Obj.cells t.c 38)).cell? ⟨w.heap.size, 3, none⟩ = some (.slice t.lA t.ln t.lc) := cell_of_row _ _ _ _ _ _ hS.g0
  have c4 : (w.alloc (Obj.cells t.c 38)).cell? ⟨w.heap.size, 4, none⟩ = some (.slice t.mA t.mn t.mc) := cell_of_row _ _ _ _ _ _ hS.g0
  go_enter Tryz.func126, Tryz.ntmps126
  go_wp2_with fail
  generalize w.alloc (Obj.cells t.c 38) = W at *
  have k2 := cell_regrown c2
  have k3 := cell_regrown c3
  have k4 := cell_regrown c4
  refine wp_region_quiet_below (by kernel_rfl) (by kernel_rfl) ?_
  repeat (first | go_big_quiet_step (fail) | quiet_step (fail))
  refine wpQuiet_nil ?_; rintro wq ⟨⟨dq, osq⟩, rfl⟩; have hbq := below_regrown W dq osq; generalize Go.Sort.grow (redrawn W dq) osq = wq at *
  have hS := hS.step hbq
  clear c0 c1 c2 c3 c4 k2 k3 k4
  have c0 : wq.cell? ⟨w.heap.size, 0, none⟩ = some (.int .i64 t.k) := cell_of_row _ _ _ _ _ _ hS.g0
  have c1 : wq.cell? ⟨w.heap.size, 1, none⟩ = some (.int .i64 t.n) := cell_of_row _ _ _ _ _ _ hS.g0
  have c2 : wq.cell? ⟨w.heap.size, 2, none⟩ = some (.string t.s) := cell_of_row _ _ _ _ _ _ hS.g0
  go_wp2_with (first | go_skip | (go_at_call 144; with_reducible (refine (HI.out (by simpa using h3) _ hS.below).mono ?_); rintro e wn ⟨⟨r, rfl⟩, hbn⟩; have hS1 := hS.step hbn; clear hS hbn c0 c1 c2; have hS := hS1; clear hS1; have c0 : wn.cell? ⟨w.heap.size, 0, none⟩ = some (.int .i64 t.k) := cell_of_row _ _ _ _ _ _ hS.g0; have c1 : wn.cell? ⟨w.heap.size, 1, none⟩ = some (.int .i64 t.n) := cell_of_row _ _ _ _ _ _ hS.g0; have c2 : wn.cell? ⟨w.heap.size, 2, none⟩ = some (.string t.s) := cell_of_row _ _ _ _ _ _ hS.g0) | (go_at_call 145; with_reducible (refine (HG.out (by simpa using h3) _ hS.below).mono ?_); rintro e wn ⟨rfl, hbn⟩; have hS1 := hS.step hbn; clear hS hbn c0 c1 c2; have hS := hS1; clear hS1; have c0 : wn.cell? ⟨w.heap.size, 0, none⟩ = some (.int .i64 t.k) := cell_of_row _ _ _ _ _ _ hS.g0; have c1 : wn.cell? ⟨w.heap.size, 1, none⟩ = some (.int .i64 t.n) := cell_of_row _ _ _ _ _ _ hS.g0; have c2 : wn.cell? ⟨w.heap.size, 2, none⟩ = some (.string t.s) := cell_of_row _ _ _ _ _ _ hS.g0))
  go_ret
  exact ⟨ret_bool hh.out.symm, hS.below⟩
set_option maxRecDepth 100000 in
set_option maxHeartbeats 1000000 in
theorem own_4 (h0 : (t.k == 0) = false) (h1 : (t.k == 1) = false) (h2 : (t.k == 2) = false) (h5 : (t.k == 5) = false) (h6 : (t.k == 6) = false) (hn : (t.n == 0) = true) (h3 : (t.k == 3) = false) (h4 : (t.k == 4) = true) (e : Bool) (hx : Fx t e true true) : Calls Tryz.prog 126 #[.agg t.c] w fun e w' => e = .returned (.bool (ownB t ib gb lb sb)) ∧ Below w.heap.size w w' := by
  have hh : Hid (ownB t ib gb lb sb = lb) := by unfold Hid ownB; rw [hx.1, hx.2.1, hx.2.2]; simp [h0, h1, h2, h5, h6, hn, h3, h4]
  have he : t.s.toList.isEmpty = e := hx.1
  have he2 : (t.s.toList == []) = e := by have := hx.1; cases hq : t.s.toList <;> simp_all
  have hl2 : decide ((0 : Int) < t.ln) = (!true) := (dec_l hx.2.1).1
  have hl3 : decide (0 < t.ln) = (!true) := (dec_l hx.2.1).2
  have hm2 : decide ((0 : Int) < t.mn) = (!true) := (dec_l hx.2.2).1
  have hm3 : decide (0 < t.mn) = (!true) := (dec_l hx.2.2).2
  clear hx
  have hnb : (t.n != 0) = false := by rw [bne, hn]; rfl
  have hS : Sees w (w.alloc (Obj.cells t.c 38)) [(w.heap.size, Obj.cells t.c 38)] := (Sees.start w).alloc _
  have c0 : (w.alloc (Obj.cells t.c 38)).cell? ⟨w.heap.size, 0, none⟩ = some (.int .i64 t.k) := cell_of_row _ _ _ _ _ _ hS.g0
  have c1 : (w.alloc (Obj.cells t.c 38)).cell? ⟨w.heap.size, 1, none⟩ = some (.int .i64 t.n) := cell_of_row _ _ _ _ _ _ hS.g0
  have c2 : (w.alloc (Obj.cells t.c 38)).cell? ⟨w.heap.size, 2, none⟩ = some (.string t.s) := cell_of_row _ _ _ _ _ _ hS.g0
  have c3 : (w.alloc (Obj.cells t.c 38)).cell? ⟨w.heap.size, 3, none⟩ = some (.slice t.lA t.ln t.lc) := cell_of_row _ _ _ _ _ _ hS.g0
  have c4 : (w.alloc (Obj.cells t.c 38)).cell? ⟨w.heap.size, 4, none⟩ = some (.slice t.mA t.mn t.mc) := cell_of_row _ _ _ _ _ _ hS.g0
  go_enter Tryz.func126, Tryz.ntmps126
  go_wp2_with fail
  generalize w.alloc (Obj.cells t.c 38) = W at *
  have k2 := cell_regrown c2
  have k3 := cell_regrown c3
  have k4 := cell_regrown c4
  refine wp_region_quiet_below (by kernel_rfl) (by kernel_rfl) ?_
  repeat (first | go_big_quiet_step (fail) | quiet_step (fail))
  refine wpQuiet_nil ?_; rintro wq ⟨⟨dq, osq⟩, rfl⟩; have hbq := below_regrown W dq osq; generalize Go.Sort.grow (redrawn W dq) osq = wq at *
  have hS := hS.step hbq
  clear c0 c1 c2 c3 c4 k2 k3 k4
  have c0 : wq.cell? ⟨w.heap.size, 0, none⟩ = some (.int .i64 t.k) := cell_of_row _ _ _ _ _ _ hS.g0
  have c1 : wq.cell? ⟨w.heap.size, 1, none⟩ = some (.int .i64 t.n) := cell_of_row _ _ _ _ _ _ hS.g0
  have c2 : wq.cell? ⟨w.heap.size, 2, none⟩ = some (.string t.s) := cell_of_row _ _ _ _ _ _ hS.g0
  go_wp2_with (first | go_skip | (go_at_call 127; with_reducible (refine (HL.out (by simpa using h4) _ hS.below).mono ?_); rintro e wn ⟨⟨r, rfl, hr⟩, hbn⟩; have hS1 := hS.step hbn; clear hS hbn c0 c1 c2; have hS := hS1; clear hS1; have c0 : wn.cell? ⟨w.heap.size, 0, none⟩ = some (.int .i64 t.k) := cell_of_row _ _ _ _ _ _ hS.g0; have c1 : wn.cell? ⟨w.heap.size, 1, none⟩ = some (.int .i64 t.n) := cell_of_row _ _ _ _ _ _ hS.g0; have c2 : wn.cell? ⟨w.heap.size, 2, none⟩ = some (.string t.s) := cell_of_row _ _ _ _ _ _ hS.g0))
  go_ret
  exact ⟨ret_bool hh.out.symm, hS.below⟩
set_option maxRecDepth 100000 in
set_option maxHeartbeats 1000000 in
theorem own_7 (h0 : (t.k == 0) = false) (h1 : (t.k == 1) = false) (h2 : (t.k == 2) = false) (h5 : (t.k == 5) = false) (h6 : (t.k == 6) = false) (hn : (t.n == 0) = true) (h3 : (t.k == 3) = false) (h4 : (t.k == 4) = false) (h7 : (t.k == 7) = true) (e : Bool) (hx : Fx t e true true) : Calls Tryz.prog 126 #[.agg t.c] w fun e w' => e = .returned (.bool (ownB t ib gb lb sb)) ∧ Below w.heap.size w w' := by
  have hh : Hid (ownB t ib gb lb sb = sb) := by unfold Hid ownB; rw [hx.1, hx.2.1, hx.2.2]; simp [h0, h1, h2, h5, h6, hn, h3, h4, h7]
  have he : t.s.toList.isEmpty = e := hx.1
  have he2 : (t.s.toList == []) = e := by have := hx.1; cases hq : t.s.toList <;> simp_all
  have hl2 : decide ((0 : Int) < t.ln) = (!true) := (dec_l hx.2.1).1
  have hl3 : decide (0 < t.ln) = (!true) := (dec_l hx.2.1).2
  have hm2 : decide ((0 : Int) < t.mn) = (!true) := (dec_l hx.2.2).1
  have hm3 : decide (0 < t.mn) = (!true) := (dec_l hx.2.2).2
  clear hx
  have hnb : (t.n != 0) = false := by rw [bne, hn]; rfl
  have hS : Sees w (w.alloc (Obj.cells t.c 38)) [(w.heap.size, Obj.cells t.c 38)] := (Sees.start w).alloc _
  have c0 : (w.alloc (Obj.cells t.c 38)).cell? ⟨w.heap.size, 0, none⟩ = some (.int .i64 t.k) := cell_of_row _ _ _ _ _ _ hS.g0
  have c1 : (w.alloc (Obj.cells t.c 38)).cell? ⟨w.heap.size, 1, none⟩ = some (.int .i64 t.n) := cell_of_row _ _ _ _ _ _ hS.g0
  have c2 : (w.alloc (Obj.cells t.c 38)).cell? ⟨w.heap.size, 2, none⟩ = some (.string t.s) := cell_of_row _ _ _ _ _ _ hS.g0
  have c3 : (w.alloc (Obj.cells t.c 38)).cell? ⟨w.heap.size, 3, none⟩ = some (.slice t.lA t.ln t.lc) := cell_of_row _ _ _ _ _ _ hS.g0
  have c4 : (w.alloc (Obj.cells t.c 38)).cell? ⟨w.heap.size, 4, none⟩ = some (.slice t.mA t.mn t.mc) := cell_of_row _ _ _ _ _ _ hS.g0
  go_enter Tryz.func126, Tryz.ntmps126
  go_wp2_with fail
  generalize w.alloc (Obj.cells t.c 38) = W at *
  have k2 := cell_regrown c2
  have k3 := cell_regrown c3
  have k4 := cell_regrown c4
  refine wp_region_quiet_below (by kernel_rfl) (by kernel_rfl) ?_
  repeat (first | go_big_quiet_step (fail) | quiet_step (fail))
  refine wpQuiet_nil ?_; rintro wq ⟨⟨dq, osq⟩, rfl⟩; have hbq := below_regrown W dq osq; generalize Go.Sort.grow (redrawn W dq) osq = wq at *
  have hS := hS.step hbq
  clear c0 c1 c2 c3 c4 k2 k3 k4
  have c0 : wq.cell? ⟨w.heap.size, 0, none⟩ = some (.int .i64 t.k) := cell_of_row _ _ _ _ _ _ hS.g0
  have c1 : wq.cell? ⟨w.heap.size, 1, none⟩ = some (.int .i64 t.n) := cell_of_row _ _ _ _ _ _ hS.g0
  have c2 : wq.cell? ⟨w.heap.size, 2, none⟩ = some (.string t.s) := cell_of_row _ _ _ _ _ _ hS.g0
  go_wp2_with (first | go_skip | (go_at_call 146; with_reducible (refine (HS.out (by simpa using h7) _ hS.below).mono ?_); rintro e wn ⟨rfl, hbn⟩; have hS1 := hS.step hbn; clear hS hbn c0 c1 c2; have hS := hS1; clear hS1; have c0 : wn.cell? ⟨w.heap.size, 0, none⟩ = some (.int .i64 t.k) := cell_of_row _ _ _ _ _ _ hS.g0; have c1 : wn.cell? ⟨w.heap.size, 1, none⟩ = some (.int .i64 t.n) := cell_of_row _ _ _ _ _ _ hS.g0; have c2 : wn.cell? ⟨w.heap.size, 2, none⟩ = some (.string t.s) := cell_of_row _ _ _ _ _ _ hS.g0))
  go_ret
  exact ⟨ret_bool hh.out.symm, hS.below⟩
set_option maxRecDepth 100000 in
set_option maxHeartbeats 1000000 in
theorem own_x (h0 : (t.k == 0) = false) (h1 : (t.k == 1) = false) (h2 : (t.k == 2) = false) (h5 : (t.k == 5) = false) (h6 : (t.k == 6) = false) (hn : (t.n == 0) = true) (h3 : (t.k == 3) = false) (h4 : (t.k == 4) = false) (h7 : (t.k == 7) = false) (e : Bool) (hx : Fx t e true true) : Calls Tryz.prog 126 #[.agg t.c] w fun e w' => e = .returned (.bool (ownB t ib gb lb sb)) ∧ Below w.heap.size w w' := by
  have hh : Hid (ownB t ib gb lb sb = false) := by unfold Hid ownB; rw [hx.1, hx.2.1, hx.2.2]; simp [h0, h1, h2, h5, h6, hn, h3, h4, h7]
  have he : t.s.toList.isEmpty = e := hx.1
  have he2 : (t.s.toList == []) = e := by have := hx.1; cases hq : t.s.toList <;> simp_all
  have hl2 : decide ((0 : Int) < t.ln) = (!true) := (dec_l hx.2.1).1
  have hl3 : decide (0 < t.ln) = (!true) := (dec_l hx.2.1).2
  have hm2 : decide ((0 : Int) < t.mn) = (!true) := (dec_l hx.2.2).1
  have hm3 : decide (0 < t.mn) = (!true) := (dec_l hx.2.2).2
  clear hx
  have hnb : (t.n != 0) = false := by rw [bne, hn]; rfl
  have hS : Sees w (w.alloc (Obj.cells t.c 38)) [(w.heap.size, Obj.cells t.c 38)] := (Sees.start w).alloc _
  have c0 : (w.alloc (Obj.cells t.c 38)).cell? ⟨w.heap.size, 0, none⟩ = some (.int .i64 t.k) := cell_of_row _ _ _ _ _ _ hS.g0
  have c1 : (w.alloc (Obj.cells t.c 38)).cell? ⟨w.heap.size, 1, none⟩ = some (.int .i64 t.n) := cell_of_row _ _ _ _ _ _ hS.g0
  have c2 : (w.alloc (Obj.cells t.c 38)).cell? ⟨w.heap.size, 2, none⟩ = some (.string t.s) := cell_of_row _ _ _ _ _ _ hS.g0
  have c3 : (w.alloc (Obj.cells t.c 38)).cell? ⟨w.heap.size, 3, none⟩ = some (.slice t.lA t.ln t.lc) := cell_of_row _ _ _ _ _ _ hS.g0
  have c4 : (w.alloc (Obj.cells t.c 38)).cell? ⟨w.heap.size, 4, none⟩ = some (.slice t.mA t.mn t.mc) := cell_of_row _ _ _ _ _ _ hS.g0
  go_enter Tryz.func126, Tryz.ntmps126
  go_wp2_with fail
  generalize w.alloc (Obj.cells t.c 38) = W at *
  have k2 := cell_regrown c2
  have k3 := cell_regrown c3
  have k4 := cell_regrown c4
  refine wp_region_quiet_below (by kernel_rfl) (by kernel_rfl) ?_
  repeat (first | go_big_quiet_step (fail) | quiet_step (fail))
  refine wpQuiet_nil ?_; rintro wq ⟨⟨dq, osq⟩, rfl⟩; have hbq := below_regrown W dq osq; generalize Go.Sort.grow (redrawn W dq) osq = wq at *
  have hS := hS.step hbq
  clear c0 c1 c2 c3 c4 k2 k3 k4
  have c0 : wq.cell? ⟨w.heap.size, 0, none⟩ = some (.int .i64 t.k) := cell_of_row _ _ _ _ _ _ hS.g0
  have c1 : wq.cell? ⟨w.heap.size, 1, none⟩ = some (.int .i64 t.n) := cell_of_row _ _ _ _ _ _ hS.g0
  have c2 : wq.cell? ⟨w.heap.size, 2, none⟩ = some (.string t.s) := cell_of_row _ _ _ _ _ _ hS.g0
  go_wp2_with fail
  go_ret
  exact ⟨ret_bool hh.out.symm, hS.below⟩
theorem own_any : Calls Tryz.prog 126 #[.agg t.c] w fun e w' => e = .returned (.bool (ownB t ib gb lb sb)) ∧ Below w.heap.size w w' := by
  obtain ⟨e, he⟩ : ∃ e, t.s.toList.isEmpty = e := ⟨_, rfl⟩
  obtain ⟨l, hl⟩ : ∃ l, (t.ln == 0) = l := ⟨_, rfl⟩
  obtain ⟨m, hm⟩ : ∃ m, (t.mn == 0) = m := ⟨_, rfl⟩
  have hx : Fx t e l m := ⟨he, hl, hm⟩
  clear he hl hm
  cases h0 : (t.k == 0)
  case true =>
    cases hn : (t.n == 0)
    case true =>
      cases e
      · exact own_0ae t ib gb lb sb w HI HG HL HS h0 hn l m hx
      · skip
        cases l
        · exact own_0al t ib gb lb sb w HI HG HL HS h0 hn m hx
        · skip
          cases m
          · exact own_0am t ib gb lb sb w HI HG HL HS h0 hn hx
          · skip
            exact own_0at t ib gb lb sb w HI HG HL HS h0 hn hx
    case false =>
      exact own_0n t ib gb lb sb w HI HG HL HS h0 hn e l m hx
  case false =>
    cases h1 : (t.k == 1)
    case true =>
      cases hn : (t.n == 0)
      case true =>
        cases e
        · exact own_1ae t ib gb lb sb w HI HG HL HS h0 h1 hn l m hx
        · skip
          cases l
          · exact own_1al t ib gb lb sb w HI HG HL HS h0 h1 hn m hx
          · skip
            cases m
            · exact own_1am t ib gb lb sb w HI HG HL HS h0 h1 hn hx
            · skip
              exact own_1at t ib gb lb sb w HI HG HL HS h0 h1 hn hx
      case false =>
        cases hn1 : (t.n == 1)
        case true =>
          cases e
          · exact own_1be t ib gb lb sb w HI HG HL HS h0 h1 hn hn1 l m hx
          · skip
            cases l
            · exact own_1bl t ib gb lb sb w HI HG HL HS h0 h1 hn hn1 m hx
            · skip
              cases m
              · exact own_1bm t ib gb lb sb w HI HG HL HS h0 h1 hn hn1 hx
              · skip
                exact own_1bt t ib gb lb sb w HI HG HL HS h0 h1 hn hn1 hx
        case false =>
          exact own_1n t ib gb lb sb w HI HG HL HS h0 h1 hn hn1 e l m hx
    case false =>
      cases h2 : (t.k == 2)
      case true =>
        cases e
        · exact own_2e t ib gb lb sb w HI HG HL HS h0 h1 h2 l m hx
        · skip
          cases l
          · exact own_2l t ib gb lb sb w HI HG HL HS h0 h1 h2 m hx
          · skip
            cases m
            · exact own_2m t ib gb lb sb w HI HG HL HS h0 h1 h2 hx
            · skip
              exact own_2t t ib gb lb sb w HI HG HL HS h0 h1 h2 hx
      case false =>
        cases h5 : (t.k == 5)
        case true =>
          cases hn : (t.n == 0)
          case true =>
            cases e
            · exact own_5ae t ib gb lb sb w HI HG HL HS h0 h1 h2 h5 hn l m hx
            · skip
              cases m
              · exact own_5am t ib gb lb sb w HI HG HL HS h0 h1 h2 h5 hn l hx
              · skip
                exact own_5at t ib gb lb sb w HI HG HL HS h0 h1 h2 h5 hn l hx
          case false =>
            exact own_5n t ib gb lb sb w HI HG HL HS h0 h1 h2 h5 hn e l m hx
        case false =>
          cases h6 : (t.k == 6)
          case true =>
            cases hn : (t.n == 0)
            case true =>
              cases e
              · exact own_6ae t ib gb lb sb w HI HG HL HS h0 h1 h2 h5 h6 hn l m hx
              · skip
                cases l
                · exact own_6al t ib gb lb sb w HI HG HL HS h0 h1 h2 h5 h6 hn m hx
                · skip
                  exact own_6at t ib gb lb sb w HI HG HL HS h0 h1 h2 h5 h6 hn m hx
            case false =>
              exact own_6n t ib gb lb sb w HI HG HL HS h0 h1 h2 h5 h6 hn e l m hx
          case false =>
            cases hn : (t.n == 0)
            case false => exact own_on t ib gb lb sb w HI HG HL HS h0 h1 h2 h5 h6 hn e l m hx
            case true =>
              cases l
              case false => exact own_ol t ib gb lb sb w HI HG HL HS h0 h1 h2 h5 h6 hn e m hx
              case true =>
                cases m
                case false => exact own_om t ib gb lb sb w HI HG HL HS h0 h1 h2 h5 h6 hn e hx
                case true =>
                  cases h3 : (t.k == 3)
                  case true =>
                    by_cases hgb : gb = true
                    case pos => exact own_3t t ib gb lb sb w HI HG HL HS h0 h1 h2 h5 h6 hn h3 hgb e hx
                    case neg => exact own_3f t ib gb lb sb w HI HG HL HS h0 h1 h2 h5 h6 hn h3 (by simpa using hgb) e hx
                  case false =>
                    cases h4 : (t.k == 4)
                    case true => exact own_4 t ib gb lb sb w HI HG HL HS h0 h1 h2 h5 h6 hn h3 h4 e hx
                    case false =>
                      cases h7 : (t.k == 7)
                      case true => exact own_7 t ib gb lb sb w HI HG HL HS h0 h1 h2 h5 h6 hn h3 h4 h7 e hx
                      case false => exact own_x t ib gb lb sb w HI HG HL HS h0 h1 h2 h5 h6 hn h3 h4 h7 e hx
end
end Go.Proofs.YtffcpmohanhihaaGreatDoor
