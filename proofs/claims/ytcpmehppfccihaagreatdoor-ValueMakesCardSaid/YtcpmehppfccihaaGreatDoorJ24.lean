/-
  The reference's Copy: its two regions whose order is open, as far as the append. Condition: what Copy tells of a child is known.
  The reference's Copy tells a tree alike, in blocks of its own. No condition.
-/
import Derived.Test.YtcpmehppfccihaaGreatDoorJ23
import Derived.Test.YtcpmehppfccihaaGreatDoorJ17
namespace Go.Proofs.YtcpmehppfccihaaGreatDoor
open Go.RowKit
set_option linter.unusedVariables false
set_option linter.unusedSimpArgs false
noncomputable def rcop7 : Array Oper := regOf Tryz.f28 7
noncomputable def rcop11 : Array Oper := regOf Tryz.f28 11
def R7 (B b1 b3 i : Nat) (t : VT) (sL : Value) (k : Nat) (v : Value) (W : World) : Prop := match k with
  | 0 => v = .pointer (some ⟨b3, 3, none⟩)
  | 1 => v = sL
  | 2 => v = .pointer (some ⟨b1, 3, none⟩)
  | 3 => v = .slice t.lA t.ln t.lc
  | 4 => v = .int .i64 (i : Int)
  | 5 => v = .pointer (some ⟨t.lb, t.lo + i * 5, none⟩)
  | 6 => v = .agg (t.lt i).c
  | 7 => ∃ y : VT, v = .agg y.c ∧ Cpy B (t.lt i) y W
  | 8 => ∃ (b : Nat) (y : VT), v = .slice (some ⟨b, 0, none⟩) 1 1 ∧ W.heap[b]? = some (.cells y.c 27 (0, 0)) ∧ Cpy B (t.lt i) y W
  | _ => True
theorem R7_stab (w0 : World) (B b1 b3 i : Nat) (t : VT) (sL : Value) : Stab w0 (R7 B b1 b3 i t sL) := by
  intro k v W W' hb h h'
  match k, h with
  | 0, h => exact h
  | 1, h => exact h
  | 2, h => exact h
  | 3, h => exact h
  | 4, h => exact h
  | 5, h => exact h
  | 6, h => exact h
  | 7, ⟨y, e, hy⟩ => exact ⟨y, e, hy.step h'⟩
  | 8, ⟨b, y, e, hr, hy⟩ => exact ⟨b, y, e, (h'.block b (Array.getElem?_eq_some_iff.1 hr).1).trans hr, hy.step h'⟩
  | n + 9, h => exact trivial
set_option maxRecDepth 100000 in
set_option maxHeartbeats 1000000 in
theorem regRC7 {ops : Array Oper} (hops : ops = rcop7) {Q : Exit → Act → World → Prop} {a0 : Act} {wr : World} {b1 b3 i : Nat} {t : VT} {sL sM : Value} (hz : 54 ≤ a0.tmps.size)
    (h1 : a0.eval (.tmp 1) = .pointer (some ⟨b1, 0, none⟩)) (h3 : a0.eval (.tmp 3) = .pointer (some ⟨b3, 0, none⟩)) (h4 : a0.eval (.tmp 4) = .int .i64 (i : Int)) (hi : i < t.ln)
    (hbox : wr.heap[b1]? = some (.cells t.c 27 (0, 0))) (hout : wr.heap[b3]? = some (.cells (outC t sL sM) 27 (0, 0))) (ht : VT.In wr.heap.size wr t)
    (HC : ∀ W, Below wr.heap.size wr W → Calls Tryz.prog 28 #[.agg (t.lt i).c] W fun e w' => ∃ y : VT, e = .returned (.agg y.c) ∧ Cpy W.heap.size (t.lt i) y w' ∧ Below W.heap.size W w')
    (hend : ∀ θ W (b : Nat) (y : VT), θ 1 = sL → θ 8 = .slice (some ⟨b, 0, none⟩) 1 1 → W.heap[b]? = some (.cells y.c 27 (0, 0)) → Cpy wr.heap.size (t.lt i) y W → Below wr.heap.size wr W → wpList Tryz.prog ops Q (ops.toList.drop 9) (seqTo ops θ a0 9) W) :
    (Code.region 7 ops true).wp Tryz.prog Q a0 wr := by
  subst hops
  have hl1 : b1 < wr.heap.size := (Array.getElem?_eq_some_iff.1 hbox).1
  have hl3 : b3 < wr.heap.size := (Array.getElem?_eq_some_iff.1 hout).1
  have hsz : ∀ t, t < 54 → decide (t < a0.tmps.size) = true := fun t ht => decide_eq_true (by omega)
  have hst := R7_stab wr wr.heap.size b1 b3 i t sL
  have HA := ht.here
  refine wp_region_env 9 (by kernel_rfl) (by kernel_rfl) (by kernel_rfl) (of_decide_eq_true (by kernel_rfl)) (by kernel_rfl) (EnvC wr 9 (R7 wr.heap.size b1 b3 i t sL)) EnvC.start ?_ ?_
  · intro k o hk ho θ L W hC hLk hdep hlat
    have hB := hC.1
    have hbx := (hB.block b1 hl1).trans hbox
    have hot := (hB.block b3 hl3).trans hout
    rcases (show k = 0 ∨ k = 1 ∨ k = 2 ∨ k = 3 ∨ k = 4 ∨ k = 5 ∨ k = 6 ∨ k = 7 ∨ k = 8 by omega) with rfl | rfl | rfl | rfl | rfl | rfl | rfl | rfl | rfl
    · exact if_want (want_of ho (by kernel_rfl) _) (gives_field 27 (.tmp 3) 3 (op_of ho (by kernel_rfl)) (seq_old (by kernel_rfl) h3) (field3 b3) (hC.keep hst rfl))
    · have e0 : θ 0 = .pointer (some ⟨b3, 3, none⟩) := hC.2 0 (by decide) (hdep 0 (by kernel_rfl))
      exact if_want (want_of ho (by kernel_rfl) _) (gives_load_cell 24 (.tmp 16) (op_of ho (by kernel_rfl)) b3 3 (seq_at (by kernel_rfl) (hsz _ (by decide)) e0) _ _ sL hot rfl _ Tryz.underlying24 rfl (hC.keep hst rfl))
    · exact if_want (want_of ho (by kernel_rfl) _) (gives_field 27 (.tmp 1) 3 (op_of ho (by kernel_rfl)) (seq_old (by kernel_rfl) h1) (field3 b1) (hC.keep hst rfl))
    · have e2 : θ 2 = .pointer (some ⟨b1, 3, none⟩) := hC.2 2 (by decide) (hdep 2 (by kernel_rfl))
      exact if_want (want_of ho (by kernel_rfl) _) (gives_load_cell 24 (.tmp 18) (op_of ho (by kernel_rfl)) b1 3 (seq_at (by kernel_rfl) (hsz _ (by decide)) e2) _ _ (.slice t.lA t.ln t.lc) hbx rfl _ Tryz.underlying24 rfl (hC.keep hst rfl))
    · exact if_want (want_of ho (by kernel_rfl) _) (gives_move (.tmp 4) (op_of ho (by kernel_rfl)) (seq_old (by kernel_rfl) h4) (hC.keep hst rfl))
    · have e3 : θ 3 = .slice t.lA t.ln t.lc := hC.2 3 (by decide) (hdep 3 (by kernel_rfl))
      have e4 : θ 4 = .int .i64 (i : Int) := hC.2 4 (by decide) (hdep 4 (by kernel_rfl))
      exact if_want (want_of ho (by kernel_rfl) _) (gives_index_row 24 (.tmp 19) (.tmp 20) (op_of ho (by kernel_rfl)) (seq_at (by kernel_rfl) (hsz _ (by decide)) e3) (seq_at (by kernel_rfl) (hsz _ (by decide)) e4) (HA.lix hi) (hC.keep hst rfl))
    · have e5 : θ 5 = .pointer (some ⟨t.lb, t.lo + i * 5, none⟩) := hC.2 5 (by decide) (hdep 5 (by kernel_rfl))
      exact if_want (want_of ho (by kernel_rfl) _) (gives_load_cells 27 (.tmp 21) (op_of ho (by kernel_rfl)) t.lb (t.lo + i * 5) (seq_at (by kernel_rfl) (hsz _ (by decide)) e5) (t.lt i).c _ ((HA.move hB).lcell i hi) Tryz.underlying27 rfl (VT.val_info _) (hC.keep hst rfl))
    · have e6 : θ 6 = .agg (t.lt i).c := hC.2 6 (by decide) (hdep 6 (by kernel_rfl))
      exact if_want (want_of ho (by kernel_rfl) _) (gives_call_ex #[.tmp 22] #[27] (op_of ho (by kernel_rfl)) (f := 28) Tryz.func28 (by kernel_rfl) rfl #[.agg (t.lt i).c] (one_arg (seq_at (by kernel_rfl) (hsz _ (by decide)) e6))
        ((HC W hB).mono fun e w' ⟨y, he, hy, hb⟩ => ⟨_, he, hC.put hst hb ⟨y, rfl, hy.low hB.size⟩⟩))
    · obtain ⟨y, e7, hy⟩ : ∃ y : VT, θ 7 = .agg y.c ∧ Cpy wr.heap.size (t.lt i) y W := hC.2 7 (by decide) (hdep 7 (by kernel_rfl))
      have hal := Below.alloc (Below.refl W.heap.size W) (Nat.le_refl _) (Obj.cells y.c 27)
      refine if_want (want_of ho (by kernel_rfl) _) (gives_slice 24 1 #[(0, .tmp 23)] (op_of ho (by kernel_rfl)) #[(0, .agg y.c)] ?_ _ _ (slice_v1 y W) (hC.put hst hal ⟨W.heap.size, y, rfl, heap_alloc_new _ _, hy.step hal⟩))
      simp only [List.map_toArray, List.map_cons, List.map_nil, seq_at (ops := rcop7) (θ := θ) (a0 := a0) (n := 8) (t := 23) (j := 7) (by kernel_rfl) (hsz _ (by decide)) e7]
  · intro θ L W hC hL
    obtain ⟨b, y, e8, hr, hy⟩ := hC.2 8 (by decide) (by rw [hL]; rfl)
    exact hend θ W b y (hC.2 1 (by decide) (by rw [hL]; rfl)) e8 hr hy hC.1
def R11 (B b1 b3 i : Nat) (t : VT) (sM : Value) (k : Nat) (v : Value) (W : World) : Prop := match k with
  | 0 => v = .pointer (some ⟨b3, 4, none⟩)
  | 1 => v = sM
  | 2 => v = .pointer (some ⟨b1, 4, none⟩)
  | 3 => v = .slice t.mA t.mn t.mc
  | 4 => v = .int .i64 (i : Int)
  | 5 => v = .pointer (some ⟨t.mb, t.mo + i * 6, none⟩)
  | 6 => v = .pointer (some ⟨t.mb, t.mo + i * 6, none⟩)
  | 7 => v = .string (t.key i)
  | 8 => v = .pointer (some ⟨b1, 4, none⟩)
  | 9 => v = .slice t.mA t.mn t.mc
  | 10 => v = .int .i64 (i : Int)
  | 11 => v = .pointer (some ⟨t.mb, t.mo + i * 6, none⟩)
  | 12 => v = .pointer (some ⟨t.mb, t.mo + i * 6 + 1, none⟩)
  | 13 => v = .agg (t.mt i).c
  | 14 => ∃ y : VT, v = .agg y.c ∧ Cpy B (t.mt i) y W
  | 15 => ∃ y : VT, v = .agg (pcK (t.key i) y) ∧ Cpy B (t.mt i) y W
  | 16 => ∃ (b : Nat) (y : VT), v = .slice (some ⟨b, 0, none⟩) 1 1 ∧ W.heap[b]? = some (.cells (pcK (t.key i) y) 34 (0, 0)) ∧ Cpy B (t.mt i) y W
  | _ => True
theorem R11_stab (w0 : World) (B b1 b3 i : Nat) (t : VT) (sM : Value) : Stab w0 (R11 B b1 b3 i t sM) := by
  intro k v W W' hb h h'
  match k, h with
  | 0, h => exact h
  | 1, h => exact h
  | 2, h => exact h
  | 3, h => exact h
  | 4, h => exact h
  | 5, h => exact h
  | 6, h => exact h
  | 7, h => exact h
  | 8, h => exact h
  | 9, h => exact h
  | 10, h => exact h
  | 11, h => exact h
  | 12, h => exact h
  | 13, h => exact h
  | 14, ⟨y, e, hy⟩ => exact ⟨y, e, hy.step h'⟩
  | 15, ⟨y, e, hy⟩ => exact ⟨y, e, hy.step h'⟩
  | 16, ⟨b, y, e, hr, hy⟩ => exact ⟨b, y, e, (h'.block b (Array.getElem?_eq_some_iff.1 hr).1).trans hr, hy.step h'⟩
  | n + 17, h => exact trivial
theorem fieldK (g i : Nat) (W : World) : (Instr.fieldAt 34 (.pointer (some ⟨g, i, none⟩)) 0).run Tryz.prog W = .ok (.pointer (some ⟨g, i, none⟩)) W := by kernel_rfl
set_option maxRecDepth 100000 in
set_option maxHeartbeats 1000000 in
theorem regRC11 {ops : Array Oper} (hops : ops = rcop11) {Q : Exit → Act → World → Prop} {a0 : Act} {wr : World} {b1 b3 i : Nat} {t : VT} {sL sM : Value} (hz : 54 ≤ a0.tmps.size)
    (h1 : a0.eval (.tmp 1) = .pointer (some ⟨b1, 0, none⟩)) (h3 : a0.eval (.tmp 3) = .pointer (some ⟨b3, 0, none⟩)) (h4 : a0.eval (.tmp 5) = .int .i64 (i : Int)) (hi : i < t.mn)
    (hbox : wr.heap[b1]? = some (.cells t.c 27 (0, 0))) (hout : wr.heap[b3]? = some (.cells (outC t sL sM) 27 (0, 0))) (ht : VT.In wr.heap.size wr t)
    (HC : ∀ W, Below wr.heap.size wr W → Calls Tryz.prog 28 #[.agg (t.mt i).c] W fun e w' => ∃ y : VT, e = .returned (.agg y.c) ∧ Cpy W.heap.size (t.mt i) y w' ∧ Below W.heap.size W w')
    (hend : ∀ θ W (b : Nat) (y : VT), θ 1 = sM → θ 16 = .slice (some ⟨b, 0, none⟩) 1 1 → W.heap[b]? = some (.cells (pcK (t.key i) y) 34 (0, 0)) → Cpy wr.heap.size (t.mt i) y W → Below wr.heap.size wr W → wpList Tryz.prog ops Q (ops.toList.drop 17) (seqTo ops θ a0 17) W) :
    (Code.region 11 ops true).wp Tryz.prog Q a0 wr := by
  subst hops
  have hl1 : b1 < wr.heap.size := (Array.getElem?_eq_some_iff.1 hbox).1
  have hl3 : b3 < wr.heap.size := (Array.getElem?_eq_some_iff.1 hout).1
  have hsz : ∀ t, t < 54 → decide (t < a0.tmps.size) = true := fun t ht => decide_eq_true (by omega)
  have hst := R11_stab wr wr.heap.size b1 b3 i t sM
  have HA := ht.here
  refine wp_region_env 17 (by kernel_rfl) (by kernel_rfl) (by kernel_rfl) (of_decide_eq_true (by kernel_rfl)) (by kernel_rfl) (EnvC wr 17 (R11 wr.heap.size b1 b3 i t sM)) EnvC.start ?_ ?_
  · intro k o hk ho θ L W hC hLk hdep hlat
    have hB := hC.1
    have hbx := (hB.block b1 hl1).trans hbox
    have hot := (hB.block b3 hl3).trans hout
    have HM := HA.move hB
    rcases (show k = 0 ∨ k = 1 ∨ k = 2 ∨ k = 3 ∨ k = 4 ∨ k = 5 ∨ k = 6 ∨ k = 7 ∨ k = 8 ∨ k = 9 ∨ k = 10 ∨ k = 11 ∨ k = 12 ∨ k = 13 ∨ k = 14 ∨ k = 15 ∨ k = 16 by omega) with rfl | rfl | rfl | rfl | rfl | rfl | rfl | rfl | rfl | rfl | rfl | rfl | rfl | rfl | rfl | rfl | rfl
    · exact if_want (want_of ho (by kernel_rfl) _) (gives_field 27 (.tmp 3) 4 (op_of ho (by kernel_rfl)) (seq_old (by kernel_rfl) h3) (field4 b3) (hC.keep hst rfl))
    · have e0 : θ 0 = .pointer (some ⟨b3, 4, none⟩) := hC.2 0 (by decide) (hdep 0 (by kernel_rfl))
      exact if_want (want_of ho (by kernel_rfl) _) (gives_load_cell 25 (.tmp 34) (op_of ho (by kernel_rfl)) b3 4 (seq_at (by kernel_rfl) (hsz _ (by decide)) e0) _ _ sM hot rfl _ Tryz.underlying25 rfl (hC.keep hst rfl))
    · exact if_want (want_of ho (by kernel_rfl) _) (gives_field 27 (.tmp 1) 4 (op_of ho (by kernel_rfl)) (seq_old (by kernel_rfl) h1) (field4 b1) (hC.keep hst rfl))
    · have e2 : θ 2 = .pointer (some ⟨b1, 4, none⟩) := hC.2 2 (by decide) (hdep 2 (by kernel_rfl))
      exact if_want (want_of ho (by kernel_rfl) _) (gives_load_cell 25 (.tmp 36) (op_of ho (by kernel_rfl)) b1 4 (seq_at (by kernel_rfl) (hsz _ (by decide)) e2) _ _ (.slice t.mA t.mn t.mc) hbx rfl _ Tryz.underlying25 rfl (hC.keep hst rfl))
    · exact if_want (want_of ho (by kernel_rfl) _) (gives_move (.tmp 5) (op_of ho (by kernel_rfl)) (seq_old (by kernel_rfl) h4) (hC.keep hst rfl))
    · have e3 : θ 3 = .slice t.mA t.mn t.mc := hC.2 3 (by decide) (hdep 3 (by kernel_rfl))
      have e4 : θ 4 = .int .i64 (i : Int) := hC.2 4 (by decide) (hdep 4 (by kernel_rfl))
      exact if_want (want_of ho (by kernel_rfl) _) (gives_index_row 25 (.tmp 37) (.tmp 38) (op_of ho (by kernel_rfl)) (seq_at (by kernel_rfl) (hsz _ (by decide)) e3) (seq_at (by kernel_rfl) (hsz _ (by decide)) e4) (HA.mix hi) (hC.keep hst rfl))
    · have e5 : θ 5 = .pointer (some ⟨t.mb, t.mo + i * 6, none⟩) := hC.2 5 (by decide) (hdep 5 (by kernel_rfl))
      exact if_want (want_of ho (by kernel_rfl) _) (gives_field 34 (.tmp 39) 0 (op_of ho (by kernel_rfl)) (seq_at (by kernel_rfl) (hsz _ (by decide)) e5) (fieldK t.mb (t.mo + i * 6)) (hC.keep hst rfl))
    · have e6 : θ 6 = .pointer (some ⟨t.mb, t.mo + i * 6, none⟩) := hC.2 6 (by decide) (hdep 6 (by kernel_rfl))
      exact if_want (want_of ho (by kernel_rfl) _) (gives_load_cellw 9 (.tmp 40) (op_of ho (by kernel_rfl)) t.mb (t.mo + i * 6) (seq_at (by kernel_rfl) (hsz _ (by decide)) e6) (.string (t.key i)) _ (HM.mkey hi) Tryz.underlying9 rfl (hC.keep hst rfl))
    · exact if_want (want_of ho (by kernel_rfl) _) (gives_field 27 (.tmp 1) 4 (op_of ho (by kernel_rfl)) (seq_old (by kernel_rfl) h1) (field4 b1) (hC.keep hst rfl))
    · have e8 : θ 8 = .pointer (some ⟨b1, 4, none⟩) := hC.2 8 (by decide) (hdep 8 (by kernel_rfl))
      exact if_want (want_of ho (by kernel_rfl) _) (gives_load_cell 25 (.tmp 42) (op_of ho (by kernel_rfl)) b1 4 (seq_at (by kernel_rfl) (hsz _ (by decide)) e8) _ _ (.slice t.mA t.mn t.mc) hbx rfl _ Tryz.underlying25 rfl (hC.keep hst rfl))
    · exact if_want (want_of ho (by kernel_rfl) _) (gives_move (.tmp 5) (op_of ho (by kernel_rfl)) (seq_old (by kernel_rfl) h4) (hC.keep hst rfl))
    · have e9 : θ 9 = .slice t.mA t.mn t.mc := hC.2 9 (by decide) (hdep 9 (by kernel_rfl))
      have e10 : θ 10 = .int .i64 (i : Int) := hC.2 10 (by decide) (hdep 10 (by kernel_rfl))
      exact if_want (want_of ho (by kernel_rfl) _) (gives_index_row 25 (.tmp 43) (.tmp 44) (op_of ho (by kernel_rfl)) (seq_at (by kernel_rfl) (hsz _ (by decide)) e9) (seq_at (by kernel_rfl) (hsz _ (by decide)) e10) (HA.mix hi) (hC.keep hst rfl))
    · have e11 : θ 11 = .pointer (some ⟨t.mb, t.mo + i * 6, none⟩) := hC.2 11 (by decide) (hdep 11 (by kernel_rfl))
      exact if_want (want_of ho (by kernel_rfl) _) (gives_field 34 (.tmp 45) 1 (op_of ho (by kernel_rfl)) (seq_at (by kernel_rfl) (hsz _ (by decide)) e11) (fieldV t.mb (t.mo + i * 6)) (hC.keep hst rfl))
    · have e12 : θ 12 = .pointer (some ⟨t.mb, t.mo + i * 6 + 1, none⟩) := hC.2 12 (by decide) (hdep 12 (by kernel_rfl))
      exact if_want (want_of ho (by kernel_rfl) _) (gives_load_cells 27 (.tmp 46) (op_of ho (by kernel_rfl)) t.mb (t.mo + i * 6 + 1) (seq_at (by kernel_rfl) (hsz _ (by decide)) e12) (t.mt i).c _ (HM.mval hi) Tryz.underlying27 rfl (VT.val_info _) (hC.keep hst rfl))
    · have e13 : θ 13 = .agg (t.mt i).c := hC.2 13 (by decide) (hdep 13 (by kernel_rfl))
      exact if_want (want_of ho (by kernel_rfl) _) (gives_call_ex #[.tmp 47] #[27] (op_of ho (by kernel_rfl)) (f := 28) Tryz.func28 (by kernel_rfl) rfl #[.agg (t.mt i).c] (one_arg (seq_at (by kernel_rfl) (hsz _ (by decide)) e13))
        ((HC W hB).mono fun e w' ⟨y, he, hy, hb⟩ => ⟨_, he, hC.put hst hb ⟨y, rfl, hy.low hB.size⟩⟩))
    · have e7 : θ 7 = .string (t.key i) := hC.2 7 (by decide) (hdep 7 (by kernel_rfl))
      obtain ⟨y, e14, hy⟩ : ∃ y : VT, θ 14 = .agg y.c ∧ Cpy wr.heap.size (t.mt i) y W := hC.2 14 (by decide) (hdep 14 (by kernel_rfl))
      refine if_want (want_of ho (by kernel_rfl) _) (gives_build 34 #[(0, .tmp 41), (1, .tmp 48)] (op_of ho (by kernel_rfl)) #[(0, .string (t.key i)), (1, .agg y.c)] ?_ _ (build_p (t.key i) y) (hC.keep hst ⟨y, rfl, hy⟩))
      simp only [List.map_toArray, List.map_cons, List.map_nil, seq_at (ops := rcop11) (θ := θ) (a0 := a0) (n := 15) (t := 41) (j := 7) (by kernel_rfl) (hsz _ (by decide)) e7, seq_at (ops := rcop11) (θ := θ) (a0 := a0) (n := 15) (t := 48) (j := 14) (by kernel_rfl) (hsz _ (by decide)) e14]
    · obtain ⟨y, e15, hy⟩ : ∃ y : VT, θ 15 = .agg (pcK (t.key i) y) ∧ Cpy wr.heap.size (t.mt i) y W := hC.2 15 (by decide) (hdep 15 (by kernel_rfl))
      have hal := Below.alloc (Below.refl W.heap.size W) (Nat.le_refl _) (Obj.cells (pcK (t.key i) y) 34)
      refine if_want (want_of ho (by kernel_rfl) _) (gives_slice 25 1 #[(0, .tmp 49)] (op_of ho (by kernel_rfl)) #[(0, .agg (pcK (t.key i) y))] ?_ _ _ (slice_p1 (t.key i) y W) (hC.put hst hal ⟨W.heap.size, y, rfl, heap_alloc_new _ _, hy.step hal⟩))
      simp only [List.map_toArray, List.map_cons, List.map_nil, seq_at (ops := rcop11) (θ := θ) (a0 := a0) (n := 16) (t := 49) (j := 15) (by kernel_rfl) (hsz _ (by decide)) e15]
  · intro θ L W hC hL
    obtain ⟨b, y, e16, hr, hy⟩ := hC.2 16 (by decide) (by rw [hL]; rfl)
    exact hend θ W b y (hC.2 1 (by decide) (by rw [hL]; rfl)) e16 hr hy hC.1
end Go.Proofs.YtcpmehppfccihaaGreatDoor
namespace Go.Proofs.YtcpmehppfccihaaGreatDoor
open Go.RowKit
set_option linter.unusedVariables false
set_option linter.unusedSimpArgs false
set_option linter.unusedSectionVars false
def RCopyOk (t : VT) : Prop := ∀ w, VT.In w.heap.size w t → VT.Sm t → Calls Tryz.prog 28 #[.agg t.c] w fun e w' => ∃ y : VT, e = .returned (.agg y.c) ∧ Cpy w.heap.size t y w' ∧ Below w.heap.size w w'
theorem valInfo3 : (Tryz.prog.info? 27).map (fun i => (i.zero, i.size, i.bytes)) = some (some (.agg VT.no.c), 5, 80) := by kernel_rfl
theorem pairInfo3 : (Tryz.prog.info? 34).map (fun i => (i.zero, i.size, i.bytes)) = some (some (.agg (pcK ⟨#[]⟩ .no)), 6, 96) := by kernel_rfl
theorem outC_one (t : VT) {a b : Value} (ha : a.oneCell' = true) (hb : b.oneCell' = true) : (outC t a b).all (·.oneCell') = true := by
  simp [outC, Value.oneCell'] at *
  exact ⟨ha, hb⟩
theorem own_one {w : World} {base : Nat} {e : TypeId} {size : Nat} {v : Value} {n : Nat} {xs : List Value} (h : w.ownsRow base e size v n xs) : v.oneCell' = true := by
  rcases h.2 with ⟨rfl, _⟩ | ⟨g, cap, cur, rfl, _⟩ <;> rfl
set_option maxRecDepth 100000 in
set_option maxHeartbeats 2000000 in
theorem rcopy_go (t : VT) (w : World) (ht : VT.In w.heap.size w t) (hs : VT.Sm t) (ihl : ∀ i, i < t.ln → RCopyOk (t.lt i)) (ihm : ∀ i, i < t.mn → RCopyOk (t.mt i)) : Calls Tryz.prog 28 #[.agg t.c] w fun e w' => ∃ y : VT, e = .returned (.agg y.c) ∧ Cpy w.heap.size t y w' ∧ Below w.heap.size w w' := by
  have IL := Lib.hid ihl
  have IM := Lib.hid ihm
  have SM := Lib.hid hs
  clear ihl ihm hs
  have HA := ht.here
  have hll := HA.ll
  have hml := HA.ml
  have HT := Lib.hid ht
  clear ht
  have hS : Boxes w (w.alloc (Obj.cells t.c 27)) [(w.heap.size, Obj.cells t.c 27)] := (Boxes.start w).alloc (Obj.cells t.c 27)
  have hz0 : (w.alloc (Obj.cells t.c 27)).heap.size = w.heap.size + 1 := Array.size_push ..
  go_enter Tryz.func28, Tryz.ntmps28
  go_wp2_with (first | go_skip | ((with_reducible refine gate_op (op := .alloc 27) rfl ?_); generalize (w.alloc (Obj.cells t.c 27)) = W0 at *; refine alloc_armz rfl 27 rfl (val_alloc _) ?_; intro wn hbn hgn hzn; rw [hz0] at hzn; have hS1 := hS.new hbn hgn; rw [hz0] at hS1 ⊢; (try simp only [List.nil_append, List.cons_append, List.set_cons_zero, List.set_cons_succ] at hS1); clear hS hbn hgn hz0; have hS := hS1; have hz0 := hzn; clear hS1 hzn; try (rename World => W0)) | ((with_reducible refine gate_op (op := .load 27 (.tmp 1)) rfl ?_); refine wpList_load_row' rfl 27 (.tmp 1) rfl _ rfl 27 _ (0, 0) _ (hS.at_ 0 rfl) Tryz.underlying27 rfl (VT.val_info t) ?_) | ((with_reducible refine gate_op (op := .store 27 (.tmp 3) (.tmp 6)) rfl ?_); refine wpList_store_row rfl 27 (.tmp 3) (.tmp 6) rfl _ (VT.c t) rfl rfl 27 _ (hS.at_ 2 rfl) (VT.val_info _) rfl (VT.c_one _) ?_; intro wn hbn hgn hon hsn; have hS1 := hS.put 2 rfl hon hbn hgn; (try simp only [List.nil_append, List.cons_append, List.set_cons_zero, List.set_cons_succ] at hS1); clear hS hbn hgn hon hsn; have hS := hS1; clear hS1) | ((with_reducible refine gate_op (op := .store 24 (.tmp 7) (.const (.slice none 0 0))) rfl ?_); (refine store_elem rfl 24 (.tmp 7) _ rfl _ 3 _ rfl rfl rfl 27 _ _ (hS.at_ 2 rfl) rfl (by kernel_rfl) ?_; intro wn hgn hon hbn hsn; have hS1 := hS.put 2 rfl hon hbn hgn; (try simp only [List.nil_append, List.cons_append, List.set_cons_zero, List.set_cons_succ] at hS1); clear hS hbn hgn hon hsn; have hS := hS1; clear hS1)) | ((with_reducible refine gate_op (op := .store 25 (.tmp 8) (.const (.slice none 0 0))) rfl ?_); (refine store_elem rfl 25 (.tmp 8) _ rfl _ 4 _ rfl rfl rfl 27 _ _ (hS.at_ 2 rfl) rfl (by kernel_rfl) ?_; intro wn hgn hon hbn hsn; have hS1 := hS.put 2 rfl hon hbn hgn; (try simp only [List.nil_append, List.cons_append, List.set_cons_zero, List.set_cons_succ] at hS1); clear hS hbn hgn hon hsn; have hS := hS1; clear hS1)))
  rename World => w3
  have hI : RcI t w 0 0 (.slice none 0 0) (.slice none 0 0) (fun _ => .no) (fun _ => .no) w3 := by
    have hz : w.heap.size + 1 + 1 < w3.heap.size := hS.lt 2 rfl
    exact ⟨hS.below, hS.at_ 0 rfl, hS.at_ 1 rfl, hS.at_ 2 rfl, hz, World.ownsRow_nil _ _ _ _, World.ownsRow_nil _ _ _ _, (fun b e => by cases e), fun k hk => absurd hk (Nat.not_lt_zero k), fun k hk => absurd hk (Nat.not_lt_zero k)⟩
  clear hS hz0
  obtain ⟨iv, hiv, hz3⟩ := Option.map_eq_some_iff.1 valInfo3
  obtain ⟨ip, hip, hz4⟩ := Option.map_eq_some_iff.1 pairInfo3
  have IV : Hid (iv.zero = some (.agg VT.no.c) ∧ iv.size = 5 ∧ iv.bytes = 80) := by
    injection hz3 with e1 e2
    injection e2 with e2 e3
    exact ⟨e1, e2, e3⟩
  have IP : Hid (ip.zero = some (.agg (pcK ⟨#[]⟩ .no)) ∧ ip.size = 6 ∧ ip.bytes = 96) := by
    injection hz4 with e1 e2
    injection e2 with e2 e3
    exact ⟨e1, e2, e3⟩
  have HIV := Lib.hid hiv
  have HIP := Lib.hid hip
  clear hz3 hz4 hiv hip
  go_loopw [4] (fun nv wr => ∃ (i : Nat) (sL : Value) (F : Nat → VT), i ≤ t.ln ∧ nv = .int .i64 (i : Int) ∧ RcI t w i 0 sL (.slice none 0 0) F (fun _ => .no) wr) (fun nv _ => t.ln - (intOf nv).toNat)
  case atStart => exact ⟨0, _, _, Nat.zero_le _, rfl, hI⟩
  case round =>
    clear hI
    rename_i wr
    obtain ⟨i, sL, F, hi, rfl, hI⟩ := hrel
    have HI := Lib.hid hI
    have c3 : wr.cell? ⟨w.heap.size, 3, none⟩ = some (.slice t.lA t.ln t.lc) := cell_of_row _ _ 3 _ _ _ hI.box
    by_cases hlt : i < t.ln
    · have hltb : decide ((i : Int) < t.ln) = true := by simp; omega
      clear hI
      go_wp2_with go_skip
      refine regRC7 (by kernel_rfl) (b1 := w.heap.size) (b3 := w.heap.size + 2) (i := i) (t := t) (sL := sL) (sM := .slice none 0 0) (of_decide_eq_true (by kernel_rfl)) rfl rfl rfl hlt HI.out.box HI.out.out ((HT.out.move HI.out.below).up HI.out.below.size) (fun W hb => IL.out i hlt W ((((HT.out.move HI.out.below).up HI.out.below.size).l i hlt).move hb |>.up hb.size) (SM.out.l i hlt)) ?_
      intro θ wY b y e1 e8 hrow hy hY
      simp only [seqTo, dstOf, Act.put, List.getElem?_toArray, List.getElem?_cons_zero, List.getElem?_cons_succ, Option.bind_some, List.setIfInBounds_toArray, List.set_cons_zero, List.set_cons_succ, List.drop_succ_cons, List.drop_zero]
      rw [e1, e8]
      clear e1 e8 c3
      have hL0 := HI.out.ownL.kept (grown_of hY none) (own_not fun b _ e => by cases e)
      refine wpList_append_own_at wY rfl (.tmp 17) (.tmp 24) 24 rfl (w.heap.size + 3) 27 iv (.agg VT.no.c) 5 80 Tryz.underlying24 HIV.out IV.out.1 IV.out.2.1 IV.out.2.2 rfl (by decide) sL i _ rfl hL0 ⟨b, 0, none⟩ 1 1 y.c.toList rfl rfl (fun j u hu => by rw [add_at, Nat.zero_add, cell_of_row wY b j _ _ _ hrow, ← Array.getElem?_toList]; exact hu) (all_mem (VT.c_one _)) (by unfold maxLen; omega) (by have := SM.out.l0; omega) (Nat.le_trans HI.out.size hY.size) ?_
      intro v' w1 hown' hgrow _ hat
      have hb3 : w1.heap[w.heap.size + 2]? = some (.cells (outC t sL (.slice none 0 0)) 27 (0, 0)) := (hgrow.block _ (by have := HI.out.size; have := hY.size; omega) (fun e => by have := (own_at HI.out.ownL e.symm).1; omega)).trans ((hY.block _ (by have := HI.out.size; omega)).trans HI.out.out)
      have HN := Lib.hid (fun wn hgn hon hbn hsn => HI.out.nextL (W3 := wn) hY hy hown' hgrow hat hgn hbn hon hsn)
      have HO := Lib.hid (own_one hown')
      have HB := Lib.hid hb3
      clear hL0 hown' hgrow hat hrow hy hY hb3
      go_wp2_with (first | go_skip | (refine store_elem rfl 24 (.tmp 26) _ rfl (w.heap.size + 2) 3 v' rfl rfl HO.out 27 _ _ HB.out rfl (by kernel_rfl) ?_; intro wn hgn hon hbn hsn; have hN := Lib.hid (HN.out wn hgn hon hbn hsn); clear hgn hon hbn hsn))
      go_roundw
      case rel => exact ⟨i + 1, v', _, by omega, by go_num, hN.out⟩
      case measure => simp [intOf]; omega
    · have hge : decide ((i : Int) < t.ln) = false := by simp; omega
      obtain rfl : i = t.ln := by omega
      clear hI
      go_wp2_with go_skip
      go_loopw [5] (fun nv wr => ∃ (i : Nat) (sM : Value) (G : Nat → VT), i ≤ t.mn ∧ nv = .int .i64 (i : Int) ∧ RcI t w t.ln i sL sM F G wr) (fun nv _ => t.mn - (intOf nv).toNat)
      case atStart => exact ⟨0, _, _, Nat.zero_le _, rfl, HI.out⟩
      case round =>
        clear HI c3
        rename_i wr
        obtain ⟨i, sM, G, hi, rfl, hI⟩ := hrel
        have HI := Lib.hid hI
        have c4 : wr.cell? ⟨w.heap.size, 4, none⟩ = some (.slice t.mA t.mn t.mc) := cell_of_row _ _ 4 _ _ _ hI.box
        by_cases hlt : i < t.mn
        · have hltb : decide ((i : Int) < t.mn) = true := by simp; omega
          clear hI
          go_wp2_with go_skip
          refine regRC11 (by kernel_rfl) (b1 := w.heap.size) (b3 := w.heap.size + 2) (i := i) (t := t) (sL := sL) (sM := sM) (of_decide_eq_true (by kernel_rfl)) rfl rfl rfl hlt HI.out.box HI.out.out ((HT.out.move HI.out.below).up HI.out.below.size) (fun W hb => IM.out i hlt W ((((HT.out.move HI.out.below).up HI.out.below.size).m i hlt).move hb |>.up hb.size) (SM.out.m i hlt)) ?_
          intro θ wY b y e1 e16 hrow hy hY
          simp only [seqTo, dstOf, Act.put, List.getElem?_toArray, List.getElem?_cons_zero, List.getElem?_cons_succ, Option.bind_some, List.setIfInBounds_toArray, List.set_cons_zero, List.set_cons_succ, List.drop_succ_cons, List.drop_zero]
          rw [e1, e16]
          clear e1 e16 c4
          have hL0 := HI.out.ownM.kept (grown_of hY none) (own_not fun b _ e => by cases e)
          refine wpList_append_own_at wY rfl (.tmp 35) (.tmp 50) 25 rfl (w.heap.size + 3) 34 ip (.agg (pcK ⟨#[]⟩ .no)) 6 96 Tryz.underlying25 HIP.out IP.out.1 IP.out.2.1 IP.out.2.2 rfl (by decide) sM i _ rfl hL0 ⟨b, 0, none⟩ 1 1 (pcK (t.key i) y).toList rfl rfl (fun j u hu => by rw [add_at, Nat.zero_add, cell_of_row wY b j _ _ _ hrow, ← Array.getElem?_toList]; exact hu) (all_mem (pcK_one _ _)) (by unfold maxLen; omega) (by have := SM.out.m0; omega) (Nat.le_trans HI.out.size hY.size) ?_
          intro v' w1 hown' hgrow _ hat
          have hb3 : w1.heap[w.heap.size + 2]? = some (.cells (outC t sL sM) 27 (0, 0)) := (hgrow.block _ (by have := HI.out.size; have := hY.size; omega) (fun e => by have := (own_at HI.out.ownM e.symm).1; omega)).trans ((hY.block _ (by have := HI.out.size; omega)).trans HI.out.out)
          have HN := Lib.hid (fun wn hgn hon hbn hsn => HI.out.nextM (W3 := wn) hY hy hown' hgrow hat hgn hbn hon hsn)
          have HO := Lib.hid (own_one hown')
          have HB := Lib.hid hb3
          clear hL0 hown' hgrow hat hrow hy hY hb3
          go_wp2_with (first | go_skip | (refine store_elem rfl 25 (.tmp 52) _ rfl (w.heap.size + 2) 4 v' rfl rfl HO.out 27 _ _ HB.out rfl (by kernel_rfl) ?_; intro wn hgn hon hbn hsn; have hN := Lib.hid (HN.out wn hgn hon hbn hsn); clear hgn hon hbn hsn))
          go_roundw
          case rel => exact ⟨i + 1, v', _, by omega, by go_num, hN.out⟩
          case measure => simp [intOf]; omega
        · have hge : decide ((i : Int) < t.mn) = false := by simp; omega
          obtain rfl : i = t.mn := by omega
          have OL := own_one hI.ownL
          have OM := own_one hI.ownM
          have O1 := Lib.hid (outC_one t OL OM)
          clear hI OL OM
          go_wp2_with (first | go_skip | (refine wpList_load_row' rfl 27 (.tmp 3) rfl _ rfl 27 _ (0, 0) _ HI.out.out Tryz.underlying27 rfl (VT.val_info t) ?_) | (refine wpList_store_row rfl 27 (.tmp 2) (.tmp 53) rfl _ (outC t sL sM) rfl rfl 27 _ HI.out.res (VT.val_info t) rfl O1.out ?_; intro wn hbn hgn hon hsn))
          obtain ⟨y, ey, hy⟩ := HI.out.end_ HA hon hsn
          refine bodyPost_ret (v := .agg (outC t sL sM)) (results_cell_row rfl _ _ _ _ _ _ _ rfl hgn Tryz.underlying27 rfl (VT.val_info t)) rfl ⟨y, by rw [ey], hy, HI.out.below.trans (hbn.mono (by omega))⟩
theorem rcopy_any (t : VT) : RCopyOk t := by
  have key : ∀ t : VT, (∀ i, i < t.ln → RCopyOk (t.lt i)) → (∀ i, i < t.mn → RCopyOk (t.mt i)) → RCopyOk t := fun t ihl ihm w ht hs => rcopy_go t w ht hs ihl ihm
  induction t with
  | no => exact key .no (fun i hi => absurd hi (Nat.not_lt_zero i)) (fun i hi => absurd hi (Nat.not_lt_zero i))
  | mk k n s lA lb lo ln lc lt mA mb mo mn mc ky mt ihl ihm => exact key (.mk k n s lA lb lo ln lc lt mA mb mo mn mc ky mt) (fun i _ => ihl i) (fun i _ => ihm i)
end Go.Proofs.YtcpmehppfccihaaGreatDoor
