/-
  A region whose order is open: what each operation gave, each thing staying as memory grows; rows made by a slice's literal; lists and maps over such rows. No condition.
  The reference's Get tells what is written here, for all trees, all keys. No condition.
-/
import Derived.Test.YtcpmehppfccihaaGreatDoorJ9
import Derived.Test.YtcpmehppfccihaaGreatDoorJ13
import Derived.Test.YtcpmehppfccihaaGreatDoorMapJ
import Derived.Test.YtcpmehppfccihaaGreatDoorVGetJ
namespace Go.Proofs.YtcpmehppfccihaaGreatDoor
open Go.RowKit
set_option linter.unusedVariables false
set_option linter.unusedSimpArgs false
set_option linter.unusedSectionVars false
/-- What each of the first n operations gave is as R says. -/
def EnvC (w0 : World) (n : Nat) (R : Nat → Value → World → Prop) (θ : Nat → Value) (L : Nat → Bool) (W : World) : Prop := Below w0.heap.size w0 W ∧ ∀ i, i < n → L i = true → R i (θ i) W
def Stab (w0 : World) (R : Nat → Value → World → Prop) : Prop := ∀ i v W W', Below w0.heap.size w0 W → R i v W → Below W.heap.size W W' → R i v W'
theorem EnvC.start {w0 : World} {n : Nat} {R : Nat → Value → World → Prop} : ∃ θ, EnvC w0 n R θ (fun _ => false) { w0 with drawn := w0.drawn + 1 } := ⟨fun _ => undef, (Below.refl _ _).drew, fun i _ h => by cases h⟩
theorem EnvC.put {w0 : World} {n : Nat} {R : Nat → Value → World → Prop} {θ : Nat → Value} {L : Nat → Bool} {W W' : World} (hs : Stab w0 R) (h : EnvC w0 n R θ L W) {i : Nat} {v : Value} (hb : Below W.heap.size W W') (hR : R i v W') : EnvC w0 n R (updV θ i v) (updL L i) W' := by
  refine ⟨h.1.trans (hb.mono h.1.size), fun j hj hl => ?_⟩
  by_cases hji : j = i
  · subst hji; rw [updV_same]; exact hR
  · rw [updV_ne _ _ hji]
    rw [updL_ne _ hji] at hl
    exact hs j _ W W' h.1 (h.2 j hj hl) hb
theorem EnvC.keep {w0 : World} {n : Nat} {R : Nat → Value → World → Prop} {θ : Nat → Value} {L : Nat → Bool} {W : World} (hs : Stab w0 R) (h : EnvC w0 n R θ L W) {i : Nat} {v : Value} (hR : R i v W) : EnvC w0 n R (updV θ i v) (updL L i) W := h.put hs (Below.refl _ _) hR
section
variable {P : Program} {o : Oper} {a : Act} {w : World} {R : Value → World → Prop}
theorem gives_load_cells (ty : TypeId) (x : Operand) (ho : o.op = .load ty x) (b i : Nat) (hx : a.eval x = .pointer (some ⟨b, i, none⟩)) (cs : Array Value) (d : TypeDesc) (hc : ∀ j v, cs[j]? = some v → w.cell? ⟨b, i + j, none⟩ = some v)
    (hu : P.underlying ty = some d) (hd : (match d with | .struct _ | .array _ _ => true | _ => false) = true) (hi : (P.info? ty).map (·.size) = some cs.size) (h : R (.agg cs) w) : gives P o a w R := by
  unfold gives execOp
  simp only [ho, hx, Instr.loadAt, Instr.sureAddr, Sem.run_bind, Sem.run_pure, Result.andThen_ok, run_load_cells w b i ty cs d hc hu hd hi]
  exact h
theorem gives_load_cellw (ty : TypeId) (x : Operand) (ho : o.op = .load ty x) (b i : Nat) (hx : a.eval x = .pointer (some ⟨b, i, none⟩)) (u : Value) (d : TypeDesc) (hc : w.cell? ⟨b, i, none⟩ = some u)
    (hu : P.underlying ty = some d) (hd : (match d with | .struct _ | .array _ _ => false | _ => true) = true) (h : R u w) : gives P o a w R := by
  have hagg : (isAgg ty).run P w = .ok false w := by
    unfold isAgg
    rw [Sem.run_bind, run_underlying hu w]
    cases d <;> simp_all
  have hl : (loadVar ty ⟨b, i, none⟩).run P w = .ok u w := by simp [loadVar, Sem.run_bind, hagg, hc]
  unfold gives execOp
  simp only [ho, hx, Instr.loadAt, Instr.sureAddr, Sem.run_bind, Sem.run_pure, Result.andThen_ok, hl]
  exact h
theorem gives_slice (t : TypeId) (len : Nat) (ps : Array (Nat × Operand)) (ho : o.op = .buildSlice t len ps) (vs : Array (Nat × Value)) (hx : ps.map (fun p => (p.1, a.eval p.2)) = vs) (cs : Array Value) (e : TypeId)
    (hr : (Instr.buildSlice t len vs).run P w = .ok (.slice (some ⟨w.heap.size, 0, none⟩) len len) (w.alloc (.cells cs e)))
    (h : R (.slice (some ⟨w.heap.size, 0, none⟩) len len) (w.alloc (.cells cs e))) : gives P o a w R := by
  have hrun : (execOp a.eval o).run P w = .ok (.value (.slice (some ⟨w.heap.size, 0, none⟩) len len)) (w.alloc (.cells cs e)) := by
    unfold execOp
    have hx' : (ps.map fun (i, x) => (i, a.eval x)) = vs := hx
    simp only [ho, Sem.run_bind, hx', hr, Result.andThen_ok, Sem.run_pure]
  unfold gives
  rw [hrun]
  exact h
theorem gives_build (t : TypeId) (ps : Array (Nat × Operand)) (ho : o.op = .build t ps) (vs : Array (Nat × Value)) (hx : ps.map (fun p => (p.1, a.eval p.2)) = vs) (v : Value)
    (hr : ∀ W, (Instr.build t vs).run P W = .ok v W) (h : R v w) : gives P o a w R := by
  have hrun : (execOp a.eval o).run P w = .ok (.value v) w := by
    unfold execOp
    have hx' : (ps.map fun (i, x) => (i, a.eval x)) = vs := hx
    simp only [ho, Sem.run_bind, hx', hr, Result.andThen_ok, Sem.run_pure]
  unfold gives
  rw [hrun]
  exact h
end
section
variable {P : Program} {ops : Array Oper} {rest : List Oper} {o : Oper} {a : Act} {w : World} {Q : Exit → Act → World → Prop}
/-- A row made: the world behind it under a name of its own. -/
theorem slice_arm (hwt : Region.wanted o (yielded ops a.tmps) = true) (t : TypeId) (len : Nat) (ps : Array (Nat × Operand)) (ho : o.op = .buildSlice t len ps) (vs : Array (Nat × Value)) (hx : ps.map (fun p => (p.1, a.eval p.2)) = vs) (cs : Array Value) (e : TypeId)
    (hr : (Instr.buildSlice t len vs).run P w = .ok (.slice (some ⟨w.heap.size, 0, none⟩) len len) (w.alloc (.cells cs e)))
    (h : ∀ w', Below w.heap.size w w' → w'.heap[w.heap.size]? = some (.cells cs e (0, 0)) → wpList P ops Q rest (a.put o.dst (.slice (some ⟨w.heap.size, 0, none⟩) len len)) w') : wpList P ops Q (o :: rest) a w :=
  BigFrame.wpList_want hwt fun K hK => by
    have hrun : (execOp a.eval o).run P w = .ok (.value (.slice (some ⟨w.heap.size, 0, none⟩) len len)) (w.alloc (.cells cs e)) := by
      unfold execOp
      have hx' : (ps.map fun (i, x) => (i, a.eval x)) = vs := hx
      simp only [ho, Sem.run_bind, hx', hr, Result.andThen_ok, Sem.run_pure]
    unfold Oper.wp
    rw [hrun, Oper.upon_value]
    exact hK _ _ (h _ (Below.alloc (Below.refl _ _) (Nat.le_refl _) _) (heap_alloc_new _ _))
/-- A block made: .. and how many there are then. -/
theorem alloc_armz (hwt : Region.wanted o (yielded ops a.tmps) = true) (ty : TypeId) (ho : o.op = .alloc ty) {z : Obj} (hr : (Instr.alloc ty true (.tuple #[])).run P w = .ok (.pointer (some ⟨w.heap.size, 0, none⟩)) (w.alloc z))
    (h : ∀ w', Below w.heap.size w w' → w'.heap[w.heap.size]? = some z → w'.heap.size = w.heap.size + 1 → wpList P ops Q rest (a.put o.dst (.pointer (some ⟨w.heap.size, 0, none⟩))) w') : wpList P ops Q (o :: rest) a w :=
  BigFrame.wpList_want hwt fun K hK => by
    have hrun : (execOp a.eval o).run P w = .ok (.value (.pointer (some ⟨w.heap.size, 0, none⟩))) (w.alloc z) := by
      unfold execOp
      simp only [ho, Sem.run_bind, hr, Result.andThen_ok, Sem.run_pure]
    unfold Oper.wp
    rw [hrun, Oper.upon_value]
    exact hK _ _ (h _ (Below.alloc (Below.refl _ _) (Nat.le_refl _) z) (heap_alloc_new _ _) (Array.size_push ..))
theorem makes_arm (hwt : Region.wanted o (yielded ops a.tmps) = true) (t : TypeId) (l c : Operand) (ho : o.op = .makeSlice t l c) (lv cv : Value) (hl : a.eval l = lv) (hc : a.eval c = cv) (n : Nat) (cs : Array Value) (e : TypeId)
    (hr : (Instr.makeSlice t lv cv).run P w = .ok (.slice (some ⟨w.heap.size, 0, none⟩) n n) (w.alloc (.cells cs e)))
    (h : ∀ w', Below w.heap.size w w' → w'.heap[w.heap.size]? = some (.cells cs e (0, 0)) → wpList P ops Q rest (a.put o.dst (.slice (some ⟨w.heap.size, 0, none⟩) n n)) w') : wpList P ops Q (o :: rest) a w :=
  BigFrame.wpList_want hwt fun K hK => by
    have hrun : (execOp a.eval o).run P w = .ok (.value (.slice (some ⟨w.heap.size, 0, none⟩) n n)) (w.alloc (.cells cs e)) := by
      unfold execOp
      simp only [ho, hl, hc, Sem.run_bind, hr, Result.andThen_ok, Sem.run_pure]
    unfold Oper.wp
    rw [hrun, Oper.upon_value]
    exact hK _ _ (h _ (Below.alloc (Below.refl _ _) (Nat.le_refl _) _) (heap_alloc_new _ _))
theorem conv_arm (hwt : Region.wanted o (yielded ops a.tmps) = true) (src dst : TypeId) (x : Operand) (ho : o.op = .convert src dst x) (xv : Value) (hx : a.eval x = xv) (v : Value)
    (hr : (convert src dst xv).run P w = .ok v w) (h : wpList P ops Q rest (a.put o.dst v) w) : wpList P ops Q (o :: rest) a w :=
  BigFrame.wpList_want hwt fun K hK => by
    have hrun : (execOp a.eval o).run P w = .ok (.value v) w := by
      unfold execOp
      simp only [ho, hx, Sem.run_bind, hr, Result.andThen_ok, Sem.run_pure]
    unfold Oper.wp
    rw [hrun, Oper.upon_value]
    exact hK _ _ h
theorem build_arm (hwt : Region.wanted o (yielded ops a.tmps) = true) (t : TypeId) (ps : Array (Nat × Operand)) (ho : o.op = .build t ps) (vs : Array (Nat × Value)) (hx : ps.map (fun p => (p.1, a.eval p.2)) = vs) (v : Value)
    (hr : (Instr.build t vs).run P w = .ok v w) (h : wpList P ops Q rest (a.put o.dst v) w) : wpList P ops Q (o :: rest) a w :=
  BigFrame.wpList_want hwt fun K hK => by
    have hrun : (execOp a.eval o).run P w = .ok (.value v) w := by
      unfold execOp
      have hx' : (ps.map fun (i, x) => (i, a.eval x)) = vs := hx
      simp only [ho, Sem.run_bind, hx', hr, Result.andThen_ok, Sem.run_pure]
    unfold Oper.wp
    rw [hrun, Oper.upon_value]
    exact hK _ _ h
end
/-- A list whose row is known. -/
theorem list_in {W : World} {b n c : Nat} {lt : Nat → VT} {row : Array Value} {T : TypeId} (hr : W.heap[b]? = some (.cells row T (0, 0))) (hrow : ∀ i, i < n → ∀ (j : Nat) u, (lt i).c[j]? = some u → row[i * 5 + j]? = some u) (hn : n ≤ 9223372036854775807) (hx : ∀ i, i < n → VT.In W.heap.size W (lt i)) :
    VT.In W.heap.size W (listT (some ⟨b, 0, none⟩) b 0 n c lt) := by
  refine .mk ⟨by show (-9223372036854775808 : Int) ≤ 0; omega, by show (0 : Int) ≤ 9223372036854775807; omega, by show (-9223372036854775808 : Int) ≤ 5; omega, by show (5 : Int) ≤ 9223372036854775807; omega, by show (0 : Nat) ≤ _; omega, hn, by show (0 : Nat) ≤ _; omega, fun h => ⟨rfl, (Array.getElem?_eq_some_iff.1 hr).1⟩, fun h => absurd h (Nat.lt_irrefl 0), fun i hi q u hu => ?_, fun i hi => absurd hi (Nat.not_lt_zero i), fun i hi => absurd hi (Nat.not_lt_zero i)⟩ hx (fun i hi => absurd hi (Nat.not_lt_zero i))
  refine (cell_of_row _ _ _ _ _ _ hr).trans ?_
  show row[0 + i * 5 + q]? = some u
  rw [show (0 : Nat) + i * 5 + q = i * 5 + q by omega]
  exact hrow i hi q u hu
theorem list_sm {A : Option Addr} {b o n c : Nat} {lt : Nat → VT} (hn : n * 80 ≤ 140737488355328) (hx : ∀ i, i < n → VT.Sm (lt i)) : VT.Sm (listT A b o n c lt) := .mk hn (by show (0 : Nat) * 96 ≤ _; omega) hx (fun i hi => absurd hi (Nat.not_lt_zero i))
/-- A map whose row is known. -/
theorem map_in {W : World} {b n c : Nat} {key : Nat → ByteArray} {mt : Nat → VT} {row : Array Value} {T : TypeId} (hr : W.heap[b]? = some (.cells row T (0, 0))) (hrow : ∀ i, i < n → ∀ (j : Nat) u, (pcK (key i) (mt i))[j]? = some u → row[i * 6 + j]? = some u) (hn : n ≤ 9223372036854775807) (hk : ∀ i, i < n → (key i).size ≤ 9223372036854775807) (hx : ∀ i, i < n → VT.In W.heap.size W (mt i)) :
    VT.In W.heap.size W (mapT (some ⟨b, 0, none⟩) b 0 n c key mt) := by
  refine .mk ⟨by show (-9223372036854775808 : Int) ≤ 0; omega, by show (0 : Int) ≤ 9223372036854775807; omega, by show (-9223372036854775808 : Int) ≤ 6; omega, by show (6 : Int) ≤ 9223372036854775807; omega, by show (0 : Nat) ≤ _; omega, by show (0 : Nat) ≤ _; omega, hn, fun h => absurd h (Nat.lt_irrefl 0), fun h => ⟨rfl, (Array.getElem?_eq_some_iff.1 hr).1⟩, fun i hi => absurd hi (Nat.not_lt_zero i), fun i hi q u hu => ?_, hk⟩ (fun i hi => absurd hi (Nat.not_lt_zero i)) hx
  refine (cell_of_row _ _ _ _ _ _ hr).trans ?_
  show row[0 + i * 6 + q]? = some u
  rw [show (0 : Nat) + i * 6 + q = i * 6 + q by omega]
  exact hrow i hi q u hu
/-- Another block that is known, made of late. -/
theorem Boxes.add {w0 W W' : World} {L : List (Nat × Obj)} {b : Nat} {o : Obj} (h : Boxes w0 W L) (hb : Below W.heap.size W W') (h0 : W.heap.size ≤ b) (hn : W'.heap[b]? = some o) : Boxes w0 W' (L ++ [(b, o)]) := by
  have h1 := h.step hb
  have key : ∀ (k : Nat) r, (L ++ [(b, o)])[k]? = some r → (k < L.length ∧ L[k]? = some r) ∨ (k = L.length ∧ r = (b, o)) := by
    intro k r hr
    rcases Nat.lt_or_ge k L.length with hk | hk
    · rw [List.getElem?_append_left hk] at hr; exact .inl ⟨hk, hr⟩
    · rw [List.getElem?_append_right hk] at hr
      rcases Nat.eq_zero_or_pos (k - L.length) with h0 | h0
      · rw [h0] at hr; exact .inr ⟨by omega, (Option.some.inj hr).symm⟩
      · rw [List.getElem?_eq_none (by simp; omega)] at hr; cases hr
  refine ⟨h1.below, fun i p hp => ?_, fun i j p q hp hq hij => ?_⟩
  · rcases key i p hp with ⟨hi, hp⟩ | ⟨_, rfl⟩
    · exact h1.rows i p hp
    · exact ⟨Nat.le_trans h.below.size h0, hn⟩
  · rcases key i p hp with ⟨h2, h3⟩ | ⟨h2, rfl⟩ <;> rcases key j q hq with ⟨h4, h5⟩ | ⟨h4, rfl⟩
    · exact h.apart i j p q h3 h5 hij
    · have := h.lt i h3; show p.1 ≠ b; omega
    · have := h.lt j h5; show b ≠ q.1; omega
    · omega
/-- A tree lies apart from a block that holds less than it asks for. -/
theorem apart_of {W : World} {y : VT} {b B : Nat} {cs : Array Value} {T : TypeId} (hy : VT.In B W y) (hb : W.heap[b]? = some (.cells cs T (0, 0))) (hn : 0 < y.ln) (hs : cs.size < y.ln * 5) : y.lb ≠ b := by
  intro he
  have h1 := hy.here.lcell (y.ln - 1) (by omega) 4 _ rfl
  rw [he, cell_of_row W b _ _ _ _ hb, Array.getElem?_eq_none (by omega)] at h1
  cases h1
end Go.Proofs.YtcpmehppfccihaaGreatDoor
namespace Go.Proofs.YtcpmehppfccihaaGreatDoor
open Go.RowKit
set_option linter.unusedVariables false
set_option linter.unusedSimpArgs false
set_option linter.unusedSectionVars false
set_option maxRecDepth 100000 in
set_option maxHeartbeats 2000000 in
theorem rget_go (t : VT) (key : ByteArray) (w : World) (ht : VT.In w.heap.size w t) (k6 : Bool) (hk6 : (t.k == 6) = k6) (r : VT × Bool) (hr : getV t key = r) : Calls Tryz.prog 23 #[.agg t.c, .string key] w fun e w' => e = .returned (.tuple #[.agg (VT.c r.1), .bool r.2]) ∧ Below w.heap.size w w' := by
  have HR := Lib.hid hr
  have HT := Lib.hid ht
  have HA := ht.here
  have hml := HA.ml
  have K6 := Lib.hid hk6
  have b1 := Lib.hid build_no
  have hS : Boxes w (w.alloc (Obj.cells t.c 27)) [(w.heap.size, Obj.cells t.c 27)] := (Boxes.start w).alloc (Obj.cells t.c 27)
  clear ht hk6 hr
  go_enter Tryz.func23, Tryz.ntmps23
  go_wp2_with (first | go_skip | ((with_reducible refine gate_op (op := .alloc 27) rfl ?_); generalize (w.alloc (Obj.cells t.c 27)) = W0 at *; refine alloc_arm rfl 27 rfl (val_alloc _) ?_; intro wn hbn hgn; have hS1 := hS.new hbn hgn; (try simp only [List.nil_append, List.cons_append] at hS1); clear hS hbn hgn; have hS := hS1; clear hS1))
  obtain ⟨b2, e2, hS5⟩ : ∃ b, b = W0.heap.size ∧ Boxes w _ [(w.heap.size, Obj.cells t.c 27), (b, Obj.cells VT.no.c 27)] := ⟨_, rfl, hS⟩
  clear hS
  rw [← e2]
  clear e2
  go_loopw [6] (fun iv wr => ∃ i : Nat, i ≤ t.mn ∧ iv = .int .i64 (i : Int) ∧ Hid (∀ j, j < i → isK t key j = false) ∧ Hid (0 < i → t.k = 6) ∧ Boxes w wr [(w.heap.size, Obj.cells t.c 27), (b2, Obj.cells VT.no.c 27)]) (fun iv _ => t.mn - (intOf iv).toNat)
  case atStart => exact ⟨0, Nat.zero_le _, rfl, fun j hj => absurd hj (Nat.not_lt_zero j), fun h => absurd h (Nat.lt_irrefl 0), hS5⟩
  case round =>
    clear hS5
    rename_i wr
    obtain ⟨i, hi, rfl, H, H6, hS⟩ := hrel
    have c0 : wr.cell? ⟨w.heap.size, 0, none⟩ = some (.int .i64 t.k) := cell_of_row _ _ 0 _ _ _ (hS.at_ 0 rfl)
    have c4 : wr.cell? ⟨w.heap.size, 4, none⟩ = some (.slice t.mA t.mn t.mc) := cell_of_row _ _ 4 _ _ _ (hS.at_ 0 rfl)
    by_cases hlt : i < t.mn
    · have hltb : decide ((i : Int) < t.mn) = true := by simp; omega
      cases k6
      · have hk := K6.out
        have gv0 : getV t key = (.no, false) := by unfold getV; rw [if_neg (by simpa using K6.out)]
        have gv := Lib.hid gv0
        clear gv0
        go_wp2_with (first | go_skip | ((with_reducible refine gate_op (op := .build 27 #[]) rfl ?_); refine build_arm rfl 27 #[] rfl #[] (by simp only [List.map_toArray, List.map_cons, List.map_nil]; rfl) _ (b1.out _) ?_) | ((with_reducible refine gate_op (op := .store 27 (.tmp 4) (.tmp 33)) rfl ?_); refine wpList_store_row rfl 27 (.tmp 4) (.tmp 33) rfl _ (VT.c VT.no) rfl rfl 27 _ (hS.at_ 1 rfl) (VT.val_info _) rfl (VT.c_one _) ?_; intro wn hbn hgn hon hsn; have hS1 := hS.put 1 rfl hon hbn hgn; (try simp only [List.nil_append, List.cons_append, List.set_cons_zero, List.set_cons_succ] at hS1); clear hS hbn hgn hon hsn; have hS := hS1; clear hS1))
        exact bodyPost_ret (v := .tuple #[.agg VT.no.c, .bool false]) (results_row_tmp rfl _ _ _ _ _ _ _ _ rfl rfl (hS.at_ 1 rfl) Tryz.underlying27 rfl (VT.val_info _)) rfl ⟨by rw [show r = _ from HR.out.symm.trans gv.out], hS.below⟩
      · have hk := K6.out
        have xa := HA.mix hlt
        have ck := (HA.move hS.below).mkey hlt
        have LA := Lib.hid ((HA.move hS.below).mval hlt)
        cases hq : isK t key i
        · have hq' : ((t.key i).toList == key.toList) = false := hq
          have hn : Hid (∀ j, j < i + 1 → isK t key j = false) := fun j hj => by
            by_cases h : j < i
            · exact H.out j h
            · obtain rfl : j = i := by omega
              exact hq
          clear hq
          go_wp2_with go_skip
          go_roundw
          case rel => exact ⟨i + 1, by omega, by go_num, hn, fun _ => by simpa using K6.out, hS⟩
          case measure => simp [intOf]; omega
        · have hq' : ((t.key i).toList == key.toList) = true := hq
          have gv0 : getV t key = (t.mt i, true) := by unfold getV; rw [if_pos (by simpa using K6.out), find_some hlt hq H.out]
          have gv := Lib.hid gv0
          clear gv0
          clear hq
          go_wp2_with (first | go_skip | (refine load_cells rfl 27 (.tmp 31) rfl _ _ rfl _ _ LA.out Tryz.underlying27 rfl (VT.val_info _) ?_) | ((with_reducible refine gate_op (op := .store 27 (.tmp 4) (.tmp 32)) rfl ?_); refine wpList_store_row rfl 27 (.tmp 4) (.tmp 32) rfl _ (VT.c (t.mt i)) rfl rfl 27 _ (hS.at_ 1 rfl) (VT.val_info _) rfl (VT.c_one _) ?_; intro wn hbn hgn hon hsn; have hS1 := hS.put 1 rfl hon hbn hgn; (try simp only [List.nil_append, List.cons_append, List.set_cons_zero, List.set_cons_succ] at hS1); clear hS hbn hgn hon hsn; have hS := hS1; clear hS1))
          exact bodyPost_ret (v := .tuple #[.agg (t.mt i).c, .bool true]) (results_row_tmp rfl _ _ _ _ _ _ _ _ rfl rfl (hS.at_ 1 rfl) Tryz.underlying27 rfl (VT.val_info _)) rfl ⟨by rw [show r = _ from HR.out.symm.trans gv.out], hS.below⟩
    · have hge : decide ((i : Int) < t.mn) = false := by simp; omega
      have him : i = t.mn := by omega
      have gv0 : getV t key = (.no, false) := by
        unfold getV
        split
        · rw [find_none (fun j hj => H.out j (by omega))]
        · rfl
      have gv := Lib.hid gv0
      clear him gv0
      go_wp2_with (first | go_skip | ((with_reducible refine gate_op (op := .build 27 #[]) rfl ?_); refine build_arm rfl 27 #[] rfl #[] (by simp only [List.map_toArray, List.map_cons, List.map_nil]; rfl) _ (b1.out _) ?_) | ((with_reducible refine gate_op (op := .store 27 (.tmp 4) (.tmp 33)) rfl ?_); refine wpList_store_row rfl 27 (.tmp 4) (.tmp 33) rfl _ (VT.c VT.no) rfl rfl 27 _ (hS.at_ 1 rfl) (VT.val_info _) rfl (VT.c_one _) ?_; intro wn hbn hgn hon hsn; have hS1 := hS.put 1 rfl hon hbn hgn; (try simp only [List.nil_append, List.cons_append, List.set_cons_zero, List.set_cons_succ] at hS1); clear hS hbn hgn hon hsn; have hS := hS1; clear hS1))
      exact bodyPost_ret (v := .tuple #[.agg VT.no.c, .bool false]) (results_row_tmp rfl _ _ _ _ _ _ _ _ rfl rfl (hS.at_ 1 rfl) Tryz.underlying27 rfl (VT.val_info _)) rfl ⟨by rw [show r = _ from HR.out.symm.trans gv.out], hS.below⟩
theorem rget_any (t : VT) (key : ByteArray) (w : World) (ht : VT.In w.heap.size w t) : Calls Tryz.prog 23 #[.agg t.c, .string key] w fun e w' => e = .returned (.tuple #[.agg (VT.c (getV t key).1), .bool (getV t key).2]) ∧ Below w.heap.size w w' := rget_go t key w ht _ rfl _ rfl
end Go.Proofs.YtcpmehppfccihaaGreatDoor
