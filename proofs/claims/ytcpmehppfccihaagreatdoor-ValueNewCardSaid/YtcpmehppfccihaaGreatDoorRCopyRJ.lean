/-
  The reference's Copy: its two regions whose order is open, as far as the append. Condition: what Copy tells of a child is known.
-/
import Derived.Test.YtcpmehppfccihaaGreatDoorJ21
import Derived.Test.YtcpmehppfccihaaGreatDoorJ17
namespace Go.Proofs.YtcpmehppfccihaaGreatDoor
open Go.RowKit
set_option linter.unusedVariables false
set_option linter.unusedSimpArgs false
noncomputable def rcop7 : Array Oper := regOf Tryz.f28 7
noncomputable def rcop11 : Array Oper := regOf Tryz.f28 11
def R7 (B b1 b3 i : Nat) (t : VT) (sL : Value) (k : Nat) (v : Value) (W : World) : Prop := match k with
  | 0 => v = .pointer (some ⟨b3, 3, none⟩)
  | 1 => v = sL
  | 2 => v = .pointer (some ⟨b1, 3, none⟩)
  | 3 => v = .slice t.lA t.ln t.lc
  | 4 => v = .int .i64 (i : Int)
  | 5 => v = .pointer (some ⟨t.lb, t.lo + i * 5, none⟩)
  | 6 => v = .agg (t.lt i).c
  | 7 => ∃ y : VT, v = .agg y.c ∧ Cpy B (t.lt i) y W
  | 8 => ∃ (b : Nat) (y : VT), v = .slice (some ⟨b, 0, none⟩) 1 1 ∧ W.heap[b]? = some (.cells y.c 27 (0, 0)) ∧ Cpy B (t.lt i) y W
  | _ => True
theorem R7_stab (w0 : World) (B b1 b3 i : Nat) (t : VT) (sL : Value) : Stab w0 (R7 B b1 b3 i t sL) := by
  intro k v W W' hb h h'
  match k, h with
  | 0, h => exact h
  | 1, h => exact h
  | 2, h => exact h
  | 3, h => exact h
  | 4, h => exact h
  | 5, h => exact h
  | 6, h => exact h
  | 7, ⟨y, e, hy⟩ => exact ⟨y, e, hy.step h'⟩
  | 8, ⟨b, y, e, hr, hy⟩ => exact ⟨b, y, e, (h'.block b (Array.getElem?_eq_some_iff.1 hr).1).trans hr, hy.step h'⟩
  | n + 9, h => exact trivial
set_option maxRecDepth 100000 in
set_option maxHeartbeats 1000000 in
theorem regRC7 {ops : Array Oper} (hops : ops = rcop7) {Q : Exit → Act → World → Prop} {a0 : Act} {wr : World} {b1 b3 i : Nat} {t : VT} {sL sM : Value} (hz : 54 ≤ a0.tmps.size)
    (h1 : a0.eval (.tmp 1) = .pointer (some ⟨b1, 0, none⟩)) (h3 : a0.eval (.tmp 3) = .pointer (some ⟨b3, 0, none⟩)) (h4 : a0.eval (.tmp 4) = .int .i64 (i : Int)) (hi : i < t.ln)
    (hbox : wr.heap[b1]? = some (.cells t.c 27 (0, 0))) (hout : wr.heap[b3]? = some (.cells (outC t sL sM) 27 (0, 0))) (ht : VT.In wr.heap.size wr t)
    (HC : ∀ W, Below wr.heap.size wr W → Calls Tryz.prog 28 #[.agg (t.lt i).c] W fun e w' => ∃ y : VT, e = .returned (.agg y.c) ∧ Cpy W.heap.size (t.lt i) y w' ∧ Below W.heap.size W w')
    (hend : ∀ θ W (b : Nat) (y : VT), θ 1 = sL → θ 8 = .slice (some ⟨b, 0, none⟩) 1 1 → W.heap[b]? = some (.cells y.c 27 (0, 0)) → Cpy wr.heap.size (t.lt i) y W → Below wr.heap.size wr W → wpList Tryz.prog ops Q (ops.toList.drop 9) (seqTo ops θ a0 9) W) :
    (Code.region 7 ops true).wp Tryz.prog Q a0 wr := by
  subst hops
  have hl1 : b1 < wr.heap.size := (Array.getElem?_eq_some_iff.1 hbox).1
  have hl3 : b3 < wr.heap.size := (Array.getElem?_eq_some_iff.1 hout).1
  have hsz : ∀ t, t < 54 → decide (t < a0.tmps.size) = true := fun t ht => decide_eq_true (by omega)
  have hst := R7_stab wr wr.heap.size b1 b3 i t sL
  have HA := ht.here
  refine wp_region_env 9 (by kernel_rfl) (by kernel_rfl) (by kernel_rfl) (of_decide_eq_true (by kernel_rfl)) (by kernel_rfl) (EnvC wr 9 (R7 wr.heap.size b1 b3 i t sL)) EnvC.start ?_ ?_
  · intro k o hk ho θ L W hC hLk hdep hlat
    have hB := hC.1
    have hbx := (hB.block b1 hl1).trans hbox
    have hot := (hB.block b3 hl3).trans hout
    rcases (show k = 0 ∨ k = 1 ∨ k = 2 ∨ k = 3 ∨ k = 4 ∨ k = 5 ∨ k = 6 ∨ k = 7 ∨ k = 8 by omega) with rfl | rfl | rfl | rfl | rfl | rfl | rfl | rfl | rfl
    · exact if_want (want_of ho (by kernel_rfl) _) (gives_field 27 (.tmp 3) 3 (op_of ho (by kernel_rfl)) (seq_old (by kernel_rfl) h3) (field3 b3) (hC.keep hst rfl))
    · have e0 : θ 0 = .pointer (some ⟨b3, 3, none⟩) := hC.2 0 (by decide) (hdep 0 (by kernel_rfl))
      exact if_want (want_of ho (by kernel_rfl) _) (gives_load_cell 24 (.tmp 16) (op_of ho (by kernel_rfl)) b3 3 (seq_at (by kernel_rfl) (hsz _ (by decide)) e0) _ _ sL hot rfl _ Tryz.underlying24 rfl (hC.keep hst rfl))
    · exact if_want (want_of ho (by kernel_rfl) _) (gives_field 27 (.tmp 1) 3 (op_of ho (by kernel_rfl)) (seq_old (by kernel_rfl) h1) (field3 b1) (hC.keep hst rfl))
    · have e2 : θ 2 = .pointer (some ⟨b1, 3, none⟩) := hC.2 2 (by decide) (hdep 2 (by kernel_rfl))
      exact if_want (want_of ho (by kernel_rfl) _) (gives_load_cell 24 (.tmp 18) (op_of ho (by kernel_rfl)) b1 3 (seq_at (by kernel_rfl) (hsz _ (by decide)) e2) _ _ (.slice t.lA t.ln t.lc) hbx rfl _ Tryz.underlying24 rfl (hC.keep hst rfl))
    · exact if_want (want_of ho (by kernel_rfl) _) (gives_move (.tmp 4) (op_of ho (by kernel_rfl)) (seq_old (by kernel_rfl) h4) (hC.keep hst rfl))
    · have e3 : θ 3 = .slice t.lA t.ln t.lc := hC.2 3 (by decide) (hdep 3 (by kernel_rfl))
      have e4 : θ 4 = .int .i64 (i : Int) := hC.2 4 (by decide) (hdep 4 (by kernel_rfl))
      exact if_want (want_of ho (by kernel_rfl) _) (gives_index_row 24 (.tmp 19) (.tmp 20) (op_of ho (by kernel_rfl)) (seq_at (by kernel_rfl) (hsz _ (by decide)) e3) (seq_at (by kernel_rfl) (hsz _ (by decide)) e4) (HA.lix hi) (hC.keep hst rfl))
    · have e5 : θ 5 = .pointer (some ⟨t.lb, t.lo + i * 5, none⟩) := hC.2 5 (by decide) (hdep 5 (by kernel_rfl))
      exact if_want (want_of ho (by kernel_rfl) _) (gives_load_cells 27 (.tmp 21) (op_of ho (by kernel_rfl)) t.lb (t.lo + i * 5) (seq_at (by kernel_rfl) (hsz _ (by decide)) e5) (t.lt i).c _ ((HA.move hB).lcell i hi) Tryz.underlying27 rfl (VT.val_info _) (hC.keep hst rfl))
    · have e6 : θ 6 = .agg (t.lt i).c := hC.2 6 (by decide) (hdep 6 (by kernel_rfl))
      exact if_want (want_of ho (by kernel_rfl) _) (gives_call_ex #[.tmp 22] #[27] (op_of ho (by kernel_rfl)) (f := 28) Tryz.func28 (by kernel_rfl) rfl #[.agg (t.lt i).c] (one_arg (seq_at (by kernel_rfl) (hsz _ (by decide)) e6))
        ((HC W hB).mono fun e w' ⟨y, he, hy, hb⟩ => ⟨_, he, hC.put hst hb ⟨y, rfl, hy.low hB.size⟩⟩))
    · obtain ⟨y, e7, hy⟩ : ∃ y : VT, θ 7 = .agg y.c ∧ Cpy wr.heap.size (t.lt i) y W := hC.2 7 (by decide) (hdep 7 (by kernel_rfl))
      have hal := Below.alloc (Below.refl W.heap.size W) (Nat.le_refl _) (Obj.cells y.c 27)
      refine if_want (want_of ho (by kernel_rfl) _) (gives_slice 24 1 #[(0, .tmp 23)] (op_of ho (by kernel_rfl)) #[(0, .agg y.c)] ?_ _ _ (slice_v1 y W) (hC.put hst hal ⟨W.heap.size, y, rfl, heap_alloc_new _ _, hy.step hal⟩))
      simp only [List.map_toArray, List.map_cons, List.map_nil, seq_at (ops := rcop7) (θ := θ) (a0 := a0) (n := 8) (t := 23) (j := 7) (by kernel_rfl) (hsz _ (by decide)) e7]
  · intro θ L W hC hL
    obtain ⟨b, y, e8, hr, hy⟩ := hC.2 8 (by decide) (by rw [hL]; rfl)
    exact hend θ W b y (hC.2 1 (by decide) (by rw [hL]; rfl)) e8 hr hy hC.1
def R11 (B b1 b3 i : Nat) (t : VT) (sM : Value) (k : Nat) (v : Value) (W : World) : Prop := match k with
  | 0 => v = .pointer (some ⟨b3, 4, none⟩)
  | 1 => v = sM
  | 2 => v = .pointer (some ⟨b1, 4, none⟩)
  | 3 => v = .slice t.mA t.mn t.mc
  | 4 => v = .int .i64 (i : Int)
  | 5 => v = .pointer (some ⟨t.mb, t.mo + i * 6, none⟩)
  | 6 => v = .pointer (some ⟨t.mb, t.mo + i * 6, none⟩)
  | 7 => v = .string (t.key i)
  | 8 => v = .pointer (some ⟨b1, 4, none⟩)
  | 9 => v = .slice t.mA t.mn t.mc
  | 10 => v = .int .i64 (i : Int)
  | 11 => v = .pointer (some ⟨t.mb, t.mo + i * 6, none⟩)
  | 12 => v = .pointer (some ⟨t.mb, t.mo + i * 6 + 1, none⟩)
  | 13 => v = .agg (t.mt i).c
  | 14 => ∃ y : VT, v = .agg y.c ∧ Cpy B (t.mt i) y W
  | 15 => ∃ y : VT, v = .agg (pcK (t.key i) y) ∧ Cpy B (t.mt i) y W
  | 16 => ∃ (b : Nat) (y : VT), v = .slice (some ⟨b, 0, none⟩) 1 1 ∧ W.heap[b]? = some (.cells (pcK (t.key i) y) 34 (0, 0)) ∧ Cpy B (t.mt i) y W
  | _ => True
theorem R11_stab (w0 : World) (B b1 b3 i : Nat) (t : VT) (sM : Value) : Stab w0 (R11 B b1 b3 i t sM) := by
  intro k v W W' hb h h'
  match k, h with
  | 0, h => exact h
  | 1, h => exact h
  | 2, h => exact h
  | 3, h => exact h
  | 4, h => exact h
  | 5, h => exact h
  | 6, h => exact h
  | 7, h => exact h
  | 8, h => exact h
  | 9, h => exact h
  | 10, h => exact h
  | 11, h => exact h
  | 12, h => exact h
  | 13, h => exact h
  | 14, ⟨y, e, hy⟩ => exact ⟨y, e, hy.step h'⟩
  | 15, ⟨y, e, hy⟩ => exact ⟨y, e, hy.step h'⟩
  | 16, ⟨b, y, e, hr, hy⟩ => exact ⟨b, y, e, (h'.block b (Array.getElem?_eq_some_iff.1 hr).1).trans hr, hy.step h'⟩
  | n + 17, h => exact trivial
theorem fieldK (g i : Nat) (W : World) : (Instr.fieldAt 34 (.pointer (some ⟨g, i, none⟩)) 0).run Tryz.prog W = .ok (.pointer (some ⟨g, i, none⟩)) W := by kernel_rfl
set_option maxRecDepth 100000 in
set_option maxHeartbeats 1000000 in
theorem regRC11 {ops : Array Oper} (hops : ops = rcop11) {Q : Exit → Act → World → Prop} {a0 : Act} {wr : World} {b1 b3 i : Nat} {t : VT} {sL sM : Value} (hz : 54 ≤ a0.tmps.size)
    (h1 : a0.eval (.tmp 1) = .pointer (some ⟨b1, 0, none⟩)) (h3 : a0.eval (.tmp 3) = .pointer (some ⟨b3, 0, none⟩)) (h4 : a0.eval (.tmp 5) = .int .i64 (i : Int)) (hi : i < t.mn)
    (hbox : wr.heap[b1]? = some (.cells t.c 27 (0, 0))) (hout : wr.heap[b3]? = some (.cells (outC t sL sM) 27 (0, 0))) (ht : VT.In wr.heap.size wr t)
    (HC : ∀ W, Below wr.heap.size wr W → Calls Tryz.prog 28 #[.agg (t.mt i).c] W fun e w' => ∃ y : VT, e = .returned (.agg y.c) ∧ Cpy W.heap.size (t.mt i) y w' ∧ Below W.heap.size W w')
    (hend : ∀ θ W (b : Nat) (y : VT), θ 1 = sM → θ 16 = .slice (some ⟨b, 0, none⟩) 1 1 → W.heap[b]? = some (.cells (pcK (t.key i) y) 34 (0, 0)) → Cpy wr.heap.size (t.mt i) y W → Below wr.heap.size wr W → wpList Tryz.prog ops Q (ops.toList.drop 17) (seqTo ops θ a0 17) W) :
    (Code.region 11 ops true).wp Tryz.prog Q a0 wr := by
  subst hops
  have hl1 : b1 < wr.heap.size := (Array.getElem?_eq_some_iff.1 hbox).1
  have hl3 : b3 < wr.heap.size := (Array.getElem?_eq_some_iff.1 hout).1
  have hsz : ∀ t, t < 54 → decide (t < a0.tmps.size) = true := fun t ht => decide_eq_true (by omega)
  have hst := R11_stab wr wr.heap.size b1 b3 i t sM
  have HA := ht.here
  refine wp_region_env 17 (by kernel_rfl) (by kernel_rfl) (by kernel_rfl) (of_decide_eq_true (by kernel_rfl)) (by kernel_rfl) (EnvC wr 17 (R11 wr.heap.size b1 b3 i t sM)) EnvC.start ?_ ?_
  · intro k o hk ho θ L W hC hLk hdep hlat
    have hB := hC.1
    have hbx := (hB.block b1 hl1).trans hbox
    have hot := (hB.block b3 hl3).trans hout
    have HM := HA.move hB
    rcases (show k = 0 ∨ k = 1 ∨ k = 2 ∨ k = 3 ∨ k = 4 ∨ k = 5 ∨ k = 6 ∨ k = 7 ∨ k = 8 ∨ k = 9 ∨ k = 10 ∨ k = 11 ∨ k = 12 ∨ k = 13 ∨ k = 14 ∨ k = 15 ∨ k = 16 by omega) with rfl | rfl | rfl | rfl | rfl | rfl | rfl | rfl | rfl | rfl | rfl | rfl | rfl | rfl | rfl | rfl | rfl
    · exact if_want (want_of ho (by kernel_rfl) _) (gives_field 27 (.tmp 3) 4 (op_of ho (by kernel_rfl)) (seq_old (by kernel_rfl) h3) (field4 b3) (hC.keep hst rfl))
    · have e0 : θ 0 = .pointer (some ⟨b3, 4, none⟩) := hC.2 0 (by decide) (hdep 0 (by kernel_rfl))
      exact if_want (want_of ho (by kernel_rfl) _) (gives_load_cell 25 (.tmp 34) (op_of ho (by kernel_rfl)) b3 4 (seq_at (by kernel_rfl) (hsz _ (by decide)) e0) _ _ sM hot rfl _ Tryz.underlying25 rfl (hC.keep hst rfl))
    · exact if_want (want_of ho (by kernel_rfl) _) (gives_field 27 (.tmp 1) 4 (op_of ho (by kernel_rfl)) (seq_old (by kernel_rfl) h1) (field4 b1) (hC.keep hst rfl))
    · have e2 : θ 2 = .pointer (some ⟨b1, 4, none⟩) := hC.2 2 (by decide) (hdep 2 (by kernel_rfl))
      exact if_want (want_of ho (by kernel_rfl) _) (gives_load_cell 25 (.tmp 36) (op_of ho (by kernel_rfl)) b1 4 (seq_at (by kernel_rfl) (hsz _ (by decide)) e2) _ _ (.slice t.mA t.mn t.mc) hbx rfl _ Tryz.underlying25 rfl (hC.keep hst rfl))
    · exact if_want (want_of ho (by kernel_rfl) _) (gives_move (.tmp 5) (op_of ho (by kernel_rfl)) (seq_old (by kernel_rfl) h4) (hC.keep hst rfl))
    · have e3 : θ 3 = .slice t.mA t.mn t.mc := hC.2 3 (by decide) (hdep 3 (by kernel_rfl))
      have e4 : θ 4 = .int .i64 (i : Int) := hC.2 4 (by decide) (hdep 4 (by kernel_rfl))
      exact if_want (want_of ho (by kernel_rfl) _) (gives_index_row 25 (.tmp 37) (.tmp 38) (op_of ho (by kernel_rfl)) (seq_at (by kernel_rfl) (hsz _ (by decide)) e3) (seq_at (by kernel_rfl) (hsz _ (by decide)) e4) (HA.mix hi) (hC.keep hst rfl))
    · have e5 : θ 5 = .pointer (some ⟨t.mb, t.mo + i * 6, none⟩) := hC.2 5 (by decide) (hdep 5 (by kernel_rfl))
      exact if_want (want_of ho (by kernel_rfl) _) (gives_field 34 (.tmp 39) 0 (op_of ho (by kernel_rfl)) (seq_at (by kernel_rfl) (hsz _ (by decide)) e5) (fieldK t.mb (t.mo + i * 6)) (hC.keep hst rfl))
    · have e6 : θ 6 = .pointer (some ⟨t.mb, t.mo + i * 6, none⟩) := hC.2 6 (by decide) (hdep 6 (by kernel_rfl))
      exact if_want (want_of ho (by kernel_rfl) _) (gives_load_cellw 9 (.tmp 40) (op_of ho (by kernel_rfl)) t.mb (t.mo + i * 6) (seq_at (by kernel_rfl) (hsz _ (by decide)) e6) (.string (t.key i)) _ (HM.mkey hi) Tryz.underlying9 rfl (hC.keep hst rfl))
    · exact if_want (want_of ho (by kernel_rfl) _) (gives_field 27 (.tmp 1) 4 (op_of ho (by kernel_rfl)) (seq_old (by kernel_rfl) h1) (field4 b1) (hC.keep hst rfl))
    · have e8 : θ 8 = .pointer (some ⟨b1, 4, none⟩) := hC.2 8 (by decide) (hdep 8 (by kernel_rfl))
      exact if_want (want_of ho (by kernel_rfl) _) (gives_load_cell 25 (.tmp 42) (op_of ho (by kernel_rfl)) b1 4 (seq_at (by kernel_rfl) (hsz _ (by decide)) e8) _ _ (.slice t.mA t.mn t.mc) hbx rfl _ Tryz.underlying25 rfl (hC.keep hst rfl))
    · exact if_want (want_of ho (by kernel_rfl) _) (gives_move (.tmp 5) (op_of ho (by kernel_rfl)) (seq_old (by kernel_rfl) h4) (hC.keep hst rfl))
    · have e9 : θ 9 = .slice t.mA t.mn t.mc := hC.2 9 (by decide) (hdep 9 (by kernel_rfl))
      have e10 : θ 10 = .int .i64 (i : Int) := hC.2 10 (by decide) (hdep 10 (by kernel_rfl))
      exact if_want (want_of ho (by kernel_rfl) _) (gives_index_row 25 (.tmp 43) (.tmp 44) (op_of ho (by kernel_rfl)) (seq_at (by kernel_rfl) (hsz _ (by decide)) e9) (seq_at (by kernel_rfl) (hsz _ (by decide)) e10) (HA.mix hi) (hC.keep hst rfl))
    · have e11 : θ 11 = .pointer (some ⟨t.mb, t.mo + i * 6, none⟩) := hC.2 11 (by decide) (hdep 11 (by kernel_rfl))
      exact if_want (want_of ho (by kernel_rfl) _) (gives_field 34 (.tmp 45) 1 (op_of ho (by kernel_rfl)) (seq_at (by kernel_rfl) (hsz _ (by decide)) e11) (fieldV t.mb (t.mo + i * 6)) (hC.keep hst rfl))
    · have e12 : θ 12 = .pointer (some ⟨t.mb, t.mo + i * 6 + 1, none⟩) := hC.2 12 (by decide) (hdep 12 (by kernel_rfl))
      exact if_want (want_of ho (by kernel_rfl) _) (gives_load_cells 27 (.tmp 46) (op_of ho (by kernel_rfl)) t.mb (t.mo + i * 6 + 1) (seq_at (by kernel_rfl) (hsz _ (by decide)) e12) (t.mt i).c _ (HM.mval hi) Tryz.underlying27 rfl (VT.val_info _) (hC.keep hst rfl))
    · have e13 : θ 13 = .agg (t.mt i).c := hC.2 13 (by decide) (hdep 13 (by kernel_rfl))
      exact if_want (want_of ho (by kernel_rfl) _) (gives_call_ex #[.tmp 47] #[27] (op_of ho (by kernel_rfl)) (f := 28) Tryz.func28 (by kernel_rfl) rfl #[.agg (t.mt i).c] (one_arg (seq_at (by kernel_rfl) (hsz _ (by decide)) e13))
        ((HC W hB).mono fun e w' ⟨y, he, hy, hb⟩ => ⟨_, he, hC.put hst hb ⟨y, rfl, hy.low hB.size⟩⟩))
    · have e7 : θ 7 = .string (t.key i) := hC.2 7 (by decide) (hdep 7 (by kernel_rfl))
      obtain ⟨y, e14, hy⟩ : ∃ y : VT, θ 14 = .agg y.c ∧ Cpy wr.heap.size (t.mt i) y W := hC.2 14 (by decide) (hdep 14 (by kernel_rfl))
      refine if_want (want_of ho (by kernel_rfl) _) (gives_build 34 #[(0, .tmp 41), (1, .tmp 48)] (op_of ho (by kernel_rfl)) #[(0, .string (t.key i)), (1, .agg y.c)] ?_ _ (build_p (t.key i) y) (hC.keep hst ⟨y, rfl, hy⟩))
      simp only [List.map_toArray, List.map_cons, List.map_nil, seq_at (ops := rcop11) (θ := θ) (a0 := a0) (n := 15) (t := 41) (j := 7) (by kernel_rfl) (hsz _ (by decide)) e7, seq_at (ops := rcop11) (θ := θ) (a0 := a0) (n := 15) (t := 48) (j := 14) (by kernel_rfl) (hsz _ (by decide)) e14]
    · obtain ⟨y, e15, hy⟩ : ∃ y : VT, θ 15 = .agg (pcK (t.key i) y) ∧ Cpy wr.heap.size (t.mt i) y W := hC.2 15 (by decide) (hdep 15 (by kernel_rfl))
      have hal := Below.alloc (Below.refl W.heap.size W) (Nat.le_refl _) (Obj.cells (pcK (t.key i) y) 34)
      refine if_want (want_of ho (by kernel_rfl) _) (gives_slice 25 1 #[(0, .tmp 49)] (op_of ho (by kernel_rfl)) #[(0, .agg (pcK (t.key i) y))] ?_ _ _ (slice_p1 (t.key i) y W) (hC.put hst hal ⟨W.heap.size, y, rfl, heap_alloc_new _ _, hy.step hal⟩))
      simp only [List.map_toArray, List.map_cons, List.map_nil, seq_at (ops := rcop11) (θ := θ) (a0 := a0) (n := 16) (t := 49) (j := 15) (by kernel_rfl) (hsz _ (by decide)) e15]
  · intro θ L W hC hL
    obtain ⟨b, y, e16, hr, hy⟩ := hC.2 16 (by decide) (by rw [hL]; rfl)
    exact hend θ W b y (hC.2 1 (by decide) (by rw [hL]; rfl)) e16 hr hy hC.1
end Go.Proofs.YtcpmehppfccihaaGreatDoor
