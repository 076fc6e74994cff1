/-
  value.Copy's three regions whose order is open: one element copied, one pair copied, the two rows cloned. Condition: what Copy, Clone tell is known.
  value.Copy's first region: both rows cloned. Condition: what Clone tells is known.
-/
import Derived.Test.YtffcpmohanhihaaGreatDoorJ6
import Derived.Test.YtffcpmohanhihaaGreatDoorJ5
import Derived.Test.YtffcpmohanhihaaGreatDoorRowPartJ
namespace Go.Proofs.YtffcpmohanhihaaGreatDoor
open Go.RowKit
set_option linter.unusedVariables false
set_option linter.unusedSimpArgs false
set_option linter.unusedSectionVars false
section
variable {P : Program} {o : Oper} {a : Act} {w : World} {R : Value → World → Prop}
theorem gives_call_ex {f : FuncId} {fn : Func} {c : Code} (xs : Array Operand) (ts : Array TypeId) (ho : o.op = .call { callee := .value (.func f), args := xs, argTypes := ts }) (hf : P.funcs[f]? = some fn) (hn : (fn.name == "runtime.NumGoroutine") = false) (hb : fn.body = some c) (vs : Array Value) (hx : xs.map a.eval = vs)
    (hc : Calls P f vs w fun e w' => ∃ v, e = .returned v ∧ R v w') : gives P o a w R := by
  have he : (execOp a.eval o).run P w = .ok (.enter f vs) w := by
    have h1 : fn.name ≠ "runtime.NumGoroutine" := by simpa using hn
    unfold execOp
    simp only [ho, resolve, hx, Act.eval, Deferred.ofValue, Sem.run_bind, Sem.run_pure, Result.andThen_ok]
    simp [invoke, callFunc, hf, h1, hb, mark]
  unfold gives
  rw [he]
  exact hc
theorem gives_field (T : TypeId) (x : Operand) (k : Nat) (ho : o.op = .fieldAddr T x k) {p : Value} (hx : a.eval x = p) {q : Value} (hr : ∀ W, (Instr.fieldAt T p k).run P W = .ok q W)
    (h : R q w) : gives P o a w R := by
  unfold gives execOp
  simp only [ho, hx, Sem.run_bind, hr, Sem.run_pure, Result.andThen_ok]
  exact h
theorem gives_load_cell (ty : TypeId) (x : Operand) (ho : o.op = .load ty x) (g i : Nat) (hx : a.eval x = .pointer (some ⟨g, i, none⟩)) (t : TypeId) (cs : Array Value) (u : Value) (hg : w.heap[g]? = some (.cells cs t (0, 0))) (hc : cs[i]? = some u) (d : TypeDesc)
    (hu : P.underlying ty = some d) (hd : (match d with | .struct _ | .array _ _ => false | _ => true) = true) (h : R u w) : gives P o a w R := gives_load_elem ty x ho g i hx t cs (0, 0) u d hg hc hu hd h
theorem gives_index_row (T : TypeId) (x ix : Operand) (ho : o.op = .indexAddr T x ix) {p q : Value} (hx : a.eval x = p) (hi : a.eval ix = q) {r : Value} (hr : ∀ W, (Instr.indexAt T p q).run P W = .ok r W)
    (h : R r w) : gives P o a w R := by
  unfold gives execOp
  simp only [ho, hx, hi, Sem.run_bind, hr, Sem.run_pure, Result.andThen_ok]
  exact h
end
theorem field3 (g : Nat) (W : World) : (Instr.fieldAt 38 (.pointer (some ⟨g, 0, none⟩)) 3).run Tryz.prog W = .ok (.pointer (some ⟨g, 3, none⟩)) W := by kernel_rfl
theorem field4 (g : Nat) (W : World) : (Instr.fieldAt 38 (.pointer (some ⟨g, 0, none⟩)) 4).run Tryz.prog W = .ok (.pointer (some ⟨g, 4, none⟩)) W := by kernel_rfl
theorem fieldV (g i : Nat) (W : World) : (Instr.fieldAt 82 (.pointer (some ⟨g, i, none⟩)) 1).run Tryz.prog W = .ok (.pointer (some ⟨g, i + 1, none⟩)) W := by kernel_rfl
/-- A value and its copy: alike, at blocks from B on. -/
structure Cop (B : Nat) (x y : VT) (W : World) : Prop where
  same : sameV y x = true
  tin : VT.In W.heap.size W y
  at_ : VT.At (fun b => B ≤ b) y
  free : VT.Free W y
theorem Cop.step {B : Nat} {x y : VT} {W W' : World} (h : Cop B x y W) (hb : Below W.heap.size W W') : Cop B x y W' := ⟨h.same, (h.tin.move hb).up hb.size, h.at_, h.free.keep h.tin.at_ (fun b hb' => hb.block b hb')⟩
theorem Cop.low {B B' : Nat} {x y : VT} {W : World} (h : Cop B x y W) (hB : B' ≤ B) : Cop B' x y W := ⟨h.same, h.tin, h.at_.imp fun _ hb => Nat.le_trans hB hb, h.free⟩
/-- What was told, and one value of which something is known. -/
def HeadC (w0 : World) (val : Nat → Value) (n ic : Nat) (R : Value → World → Prop) (θ : Nat → Value) (L : Nat → Bool) (W : World) : Prop :=
  (∀ i, i < n → i ≠ ic → L i = true → θ i = val i) ∧ Below w0.heap.size w0 W ∧ (L ic = true → R (θ ic) W)
theorem HeadC.keep {w0 : World} {val : Nat → Value} {n ic : Nat} {R : Value → World → Prop} {θ : Nat → Value} {L : Nat → Bool} {W : World} (h : HeadC w0 val n ic R θ L W) {i : Nat} (hi : i ≠ ic) {v : Value} (hv : v = val i) : HeadC w0 val n ic R (updV θ i v) (updL L i) W := by
  obtain ⟨h1, h2, h3⟩ := h
  refine ⟨fun j hj hc hl => ?_, h2, fun hl => ?_⟩
  · by_cases hji : j = i
    · subst hji; rw [updV_same]; exact hv
    · rw [updV_ne _ _ hji]; rw [updL_ne _ hji] at hl; exact h1 j hj hc hl
  · rw [updL_ne _ (Ne.symm hi)] at hl
    rw [updV_ne _ _ (Ne.symm hi)]
    exact h3 hl
theorem HeadC.call {w0 : World} {val : Nat → Value} {n ic : Nat} {R : Value → World → Prop} {θ : Nat → Value} {L : Nat → Bool} {W W' : World} (h : HeadC w0 val n ic R θ L W) {v : Value} (hb : Below W.heap.size W W') (hR : R v W') : HeadC w0 val n ic R (updV θ ic v) (updL L ic) W' := by
  obtain ⟨h1, h2, h3⟩ := h
  refine ⟨fun j hj hc hl => ?_, h2.trans (hb.mono h2.size), fun _ => by rw [updV_same]; exact hR⟩
  rw [updV_ne _ _ hc]; rw [updL_ne _ hc] at hl; exact h1 j hj hc hl
noncomputable def copy5 : Array Oper := regOf Tryz.f56 5
noncomputable def copy10 : Array Oper := regOf Tryz.f56 10
def val5 (b0 g n c i : Nat) (x : VT) : Nat → Value := fun k => [.pointer (some ⟨b0, 3, none⟩), .slice (some ⟨g, 0, none⟩) n c, .int .i64 (i : Int), .pointer (some ⟨b0, 3, none⟩), .slice (some ⟨g, 0, none⟩) n c, .int .i64 (i : Int), .pointer (some ⟨g, i * 5, none⟩), .agg x.c, undef, .pointer (some ⟨g, i * 5, none⟩)].getD k undef
set_option maxRecDepth 100000 in
set_option maxHeartbeats 1000000 in
theorem regCopy5 {ops : Array Oper} (hops : ops = copy5) {Q : Exit → Act → World → Prop} {a0 : Act} {wr : World} {b0 g n c i : Nat} {x : VT} {box cur : Array Value} (hz : 50 ≤ a0.tmps.size)
    (h1 : a0.eval (.tmp 1) = .pointer (some ⟨b0, 0, none⟩)) (h3 : a0.eval (.tmp 3) = .int .i64 (i : Int)) (hi : i < n)
    (hbox : wr.heap[b0]? = some (.cells box 38 (0, 0))) (hb3 : box[3]? = some (.slice (some ⟨g, 0, none⟩) n c)) (hrow : wr.heap[g]? = some (.cells cur 38 (0, 0))) (hx : ∀ (j : Nat) (u : Value), x.c[j]? = some u → cur[i * 5 + j]? = some u)
    (HC : ∀ W, Below wr.heap.size wr W → Calls Tryz.prog 56 #[.agg x.c] W fun e w' => ∃ y : VT, e = .returned (.agg y.c) ∧ Cop W.heap.size x y w' ∧ Below W.heap.size W w')
    (hend : ∀ θ W y, θ 8 = .agg (VT.c y) → θ 9 = .pointer (some ⟨g, i * 5, none⟩) → Cop wr.heap.size x y W → Below wr.heap.size wr W → wpList Tryz.prog ops Q (ops.toList.drop 10) (seqTo ops θ a0 10) W) :
    (Code.region 5 ops true).wp Tryz.prog Q a0 wr := by
  subst hops
  have hlb : b0 < wr.heap.size := (Array.getElem?_eq_some_iff.1 hbox).1
  have hlg : g < wr.heap.size := (Array.getElem?_eq_some_iff.1 hrow).1
  have hix : ∀ W, (Instr.indexAt 35 (.slice (some ⟨g, 0, none⟩) n c) (.int .i64 (i : Int))).run Tryz.prog W = .ok (.pointer (some ⟨g, i * 5, none⟩)) W := fun W => by
    have := run_index_row (P := Tryz.prog) 35 38 Tryz.underlying35 5 (by kernel_rfl) (A := some ⟨g, 0, none⟩) rfl hi c W
    rwa [Nat.zero_add] at this
  have hsz : ∀ t, t < 50 → decide (t < a0.tmps.size) = true := fun t ht => decide_eq_true (by omega)
  refine wp_region_env 10 (by kernel_rfl) (by kernel_rfl) (by kernel_rfl) (of_decide_eq_true (by kernel_rfl)) (by kernel_rfl) (HeadC wr (val5 b0 g n c i x) 10 8 (fun v W => ∃ y : VT, v = .agg y.c ∧ Cop wr.heap.size x y W)) ⟨fun _ => undef, ?_⟩ ?_ ?_
  · exact ⟨(fun i _ _ h => by cases h), (Below.refl _ _).drew, (fun h => by cases h)⟩
  · intro k o hk ho θ L W hC hLk hdep hlat
    have hT := hC.1
    have hB := hC.2.1
    have qb : W.heap[b0]? = some (.cells box 38 (0, 0)) := (hB.block b0 hlb).trans hbox
    have qg : W.heap[g]? = some (.cells cur 38 (0, 0)) := (hB.block g hlg).trans hrow
    rcases (show k = 0 ∨ k = 1 ∨ k = 2 ∨ k = 3 ∨ k = 4 ∨ k = 5 ∨ k = 6 ∨ k = 7 ∨ k = 8 ∨ k = 9 by omega) with rfl | rfl | rfl | rfl | rfl | rfl | rfl | rfl | rfl | rfl
    · exact if_want (want_of ho (by kernel_rfl) _) (gives_field 38 (.tmp 1) 3 (op_of ho (by kernel_rfl)) (seq_old (by kernel_rfl) h1) (field3 b0) (hC.keep (by decide) rfl))
    · have e0 : θ 0 = .pointer (some ⟨b0, 3, none⟩) := hT 0 (by decide) (by decide) (hdep 0 (by kernel_rfl))
      exact if_want (want_of ho (by kernel_rfl) _) (gives_load_cell 35 (.tmp 19) (op_of ho (by kernel_rfl)) b0 3 (seq_at (by kernel_rfl) (hsz _ (by decide)) e0) _ box _ qb hb3 _ Tryz.underlying35 rfl (hC.keep (by decide) rfl))
    · exact if_want (want_of ho (by kernel_rfl) _) (gives_move (.tmp 3) (op_of ho (by kernel_rfl)) (seq_old (by kernel_rfl) h3) (hC.keep (by decide) rfl))
    · exact if_want (want_of ho (by kernel_rfl) _) (gives_field 38 (.tmp 1) 3 (op_of ho (by kernel_rfl)) (seq_old (by kernel_rfl) h1) (field3 b0) (hC.keep (by decide) rfl))
    · have e3 : θ 3 = .pointer (some ⟨b0, 3, none⟩) := hT 3 (by decide) (by decide) (hdep 3 (by kernel_rfl))
      exact if_want (want_of ho (by kernel_rfl) _) (gives_load_cell 35 (.tmp 22) (op_of ho (by kernel_rfl)) b0 3 (seq_at (by kernel_rfl) (hsz _ (by decide)) e3) _ box _ qb hb3 _ Tryz.underlying35 rfl (hC.keep (by decide) rfl))
    · exact if_want (want_of ho (by kernel_rfl) _) (gives_move (.tmp 3) (op_of ho (by kernel_rfl)) (seq_old (by kernel_rfl) h3) (hC.keep (by decide) rfl))
    · have e4 : θ 4 = .slice (some ⟨g, 0, none⟩) n c := hT 4 (by decide) (by decide) (hdep 4 (by kernel_rfl))
      have e5 : θ 5 = .int .i64 (i : Int) := hT 5 (by decide) (by decide) (hdep 5 (by kernel_rfl))
      exact if_want (want_of ho (by kernel_rfl) _) (gives_index_row 35 (.tmp 23) (.tmp 24) (op_of ho (by kernel_rfl)) (seq_at (by kernel_rfl) (hsz _ (by decide)) e4) (seq_at (by kernel_rfl) (hsz _ (by decide)) e5) hix (hC.keep (by decide) rfl))
    · have e6 : θ 6 = .pointer (some ⟨g, i * 5, none⟩) := hT 6 (by decide) (by decide) (hdep 6 (by kernel_rfl))
      exact if_want (want_of ho (by kernel_rfl) _) (gives_load_mid 38 (.tmp 25) (op_of ho (by kernel_rfl)) g (i * 5) (seq_at (by kernel_rfl) (hsz _ (by decide)) e6) _ cur x.c (0, 0) _ qg hx Tryz.underlying38 rfl (VT.val_info _) (hC.keep (by decide) rfl))
    · have e7 : θ 7 = .agg x.c := hT 7 (by decide) (by decide) (hdep 7 (by kernel_rfl))
      exact if_want (want_of ho (by kernel_rfl) _) (gives_call_ex #[.tmp 26] #[38] (op_of ho (by kernel_rfl)) (f := 56) Tryz.func56 (by kernel_rfl) rfl #[.agg x.c] (one_arg (seq_at (by kernel_rfl) (hsz _ (by decide)) e7))
        ((HC W hB).mono fun e w' ⟨y, he, hy, hb⟩ => ⟨_, he, hC.call hb ⟨y, rfl, hy.low hB.size⟩⟩))
    · have e1 : θ 1 = .slice (some ⟨g, 0, none⟩) n c := hT 1 (by decide) (by decide) (hdep 1 (by kernel_rfl))
      have e2 : θ 2 = .int .i64 (i : Int) := hT 2 (by decide) (by decide) (hdep 2 (by kernel_rfl))
      exact if_want (want_of ho (by kernel_rfl) _) (gives_index_row 35 (.tmp 20) (.tmp 21) (op_of ho (by kernel_rfl)) (seq_at (by kernel_rfl) (hsz _ (by decide)) e1) (seq_at (by kernel_rfl) (hsz _ (by decide)) e2) hix (hC.keep (by decide) rfl))
  · intro θ L W hC hL
    obtain ⟨y, e8, hy⟩ := hC.2.2 (by rw [hL]; rfl)
    exact hend θ W y e8 (hC.1 9 (by decide) (by decide) (by rw [hL]; rfl)) hy hC.2.1
def val10 (b0 g n c i : Nat) (x : VT) : Nat → Value := fun k => [.pointer (some ⟨b0, 4, none⟩), .slice (some ⟨g, 0, none⟩) n c, .int .i64 (i : Int), .pointer (some ⟨b0, 4, none⟩), .slice (some ⟨g, 0, none⟩) n c, .int .i64 (i : Int), .pointer (some ⟨g, i * 6, none⟩), .pointer (some ⟨g, i * 6 + 1, none⟩), .agg x.c, undef, .pointer (some ⟨g, i * 6, none⟩), .pointer (some ⟨g, i * 6 + 1, none⟩)].getD k undef
set_option maxRecDepth 100000 in
set_option maxHeartbeats 1000000 in
theorem regCopy10 {ops : Array Oper} (hops : ops = copy10) {Q : Exit → Act → World → Prop} {a0 : Act} {wr : World} {b0 g n c i : Nat} {x : VT} {box cur : Array Value} (hz : 50 ≤ a0.tmps.size)
    (h1 : a0.eval (.tmp 1) = .pointer (some ⟨b0, 0, none⟩)) (h3 : a0.eval (.tmp 4) = .int .i64 (i : Int)) (hi : i < n)
    (hbox : wr.heap[b0]? = some (.cells box 38 (0, 0))) (hb3 : box[4]? = some (.slice (some ⟨g, 0, none⟩) n c)) (hrow : wr.heap[g]? = some (.cells cur 82 (0, 0))) (hx : ∀ (j : Nat) (u : Value), x.c[j]? = some u → cur[i * 6 + 1 + j]? = some u)
    (HC : ∀ W, Below wr.heap.size wr W → Calls Tryz.prog 56 #[.agg x.c] W fun e w' => ∃ y : VT, e = .returned (.agg y.c) ∧ Cop W.heap.size x y w' ∧ Below W.heap.size W w')
    (hend : ∀ θ W y, θ 9 = .agg (VT.c y) → θ 11 = .pointer (some ⟨g, i * 6 + 1, none⟩) → Cop wr.heap.size x y W → Below wr.heap.size wr W → wpList Tryz.prog ops Q (ops.toList.drop 12) (seqTo ops θ a0 12) W) :
    (Code.region 10 ops true).wp Tryz.prog Q a0 wr := by
  subst hops
  have hlb : b0 < wr.heap.size := (Array.getElem?_eq_some_iff.1 hbox).1
  have hlg : g < wr.heap.size := (Array.getElem?_eq_some_iff.1 hrow).1
  have hix : ∀ W, (Instr.indexAt 36 (.slice (some ⟨g, 0, none⟩) n c) (.int .i64 (i : Int))).run Tryz.prog W = .ok (.pointer (some ⟨g, i * 6, none⟩)) W := fun W => by
    have := run_index_row (P := Tryz.prog) 36 82 Tryz.underlying36 6 (by kernel_rfl) (A := some ⟨g, 0, none⟩) rfl hi c W
    rwa [Nat.zero_add] at this
  have hsz : ∀ t, t < 50 → decide (t < a0.tmps.size) = true := fun t ht => decide_eq_true (by omega)
  refine wp_region_env 12 (by kernel_rfl) (by kernel_rfl) (by kernel_rfl) (of_decide_eq_true (by kernel_rfl)) (by kernel_rfl) (HeadC wr (val10 b0 g n c i x) 12 9 (fun v W => ∃ y : VT, v = .agg y.c ∧ Cop wr.heap.size x y W)) ⟨fun _ => undef, ?_⟩ ?_ ?_
  · exact ⟨(fun i _ _ h => by cases h), (Below.refl _ _).drew, (fun h => by cases h)⟩
  · intro k o hk ho θ L W hC hLk hdep hlat
    have hT := hC.1
    have hB := hC.2.1
    have qb : W.heap[b0]? = some (.cells box 38 (0, 0)) := (hB.block b0 hlb).trans hbox
    have qg : W.heap[g]? = some (.cells cur 82 (0, 0)) := (hB.block g hlg).trans hrow
    rcases (show k = 0 ∨ k = 1 ∨ k = 2 ∨ k = 3 ∨ k = 4 ∨ k = 5 ∨ k = 6 ∨ k = 7 ∨ k = 8 ∨ k = 9 ∨ k = 10 ∨ k = 11 by omega) with rfl | rfl | rfl | rfl | rfl | rfl | rfl | rfl | rfl | rfl | rfl | rfl
    · exact if_want (want_of ho (by kernel_rfl) _) (gives_field 38 (.tmp 1) 4 (op_of ho (by kernel_rfl)) (seq_old (by kernel_rfl) h1) (field4 b0) (hC.keep (by decide) rfl))
    · have e0 : θ 0 = .pointer (some ⟨b0, 4, none⟩) := hT 0 (by decide) (by decide) (hdep 0 (by kernel_rfl))
      exact if_want (want_of ho (by kernel_rfl) _) (gives_load_cell 36 (.tmp 36) (op_of ho (by kernel_rfl)) b0 4 (seq_at (by kernel_rfl) (hsz _ (by decide)) e0) _ box _ qb hb3 _ Tryz.underlying36 rfl (hC.keep (by decide) rfl))
    · exact if_want (want_of ho (by kernel_rfl) _) (gives_move (.tmp 4) (op_of ho (by kernel_rfl)) (seq_old (by kernel_rfl) h3) (hC.keep (by decide) rfl))
    · exact if_want (want_of ho (by kernel_rfl) _) (gives_field 38 (.tmp 1) 4 (op_of ho (by kernel_rfl)) (seq_old (by kernel_rfl) h1) (field4 b0) (hC.keep (by decide) rfl))
    · have e3 : θ 3 = .pointer (some ⟨b0, 4, none⟩) := hT 3 (by decide) (by decide) (hdep 3 (by kernel_rfl))
      exact if_want (want_of ho (by kernel_rfl) _) (gives_load_cell 36 (.tmp 39) (op_of ho (by kernel_rfl)) b0 4 (seq_at (by kernel_rfl) (hsz _ (by decide)) e3) _ box _ qb hb3 _ Tryz.underlying36 rfl (hC.keep (by decide) rfl))
    · exact if_want (want_of ho (by kernel_rfl) _) (gives_move (.tmp 4) (op_of ho (by kernel_rfl)) (seq_old (by kernel_rfl) h3) (hC.keep (by decide) rfl))
    · have e4 : θ 4 = .slice (some ⟨g, 0, none⟩) n c := hT 4 (by decide) (by decide) (hdep 4 (by kernel_rfl))
      have e5 : θ 5 = .int .i64 (i : Int) := hT 5 (by decide) (by decide) (hdep 5 (by kernel_rfl))
      exact if_want (want_of ho (by kernel_rfl) _) (gives_index_row 36 (.tmp 40) (.tmp 41) (op_of ho (by kernel_rfl)) (seq_at (by kernel_rfl) (hsz _ (by decide)) e4) (seq_at (by kernel_rfl) (hsz _ (by decide)) e5) hix (hC.keep (by decide) rfl))
    · have e6 : θ 6 = .pointer (some ⟨g, i * 6, none⟩) := hT 6 (by decide) (by decide) (hdep 6 (by kernel_rfl))
      exact if_want (want_of ho (by kernel_rfl) _) (gives_field 82 (.tmp 42) 1 (op_of ho (by kernel_rfl)) (seq_at (by kernel_rfl) (hsz _ (by decide)) e6) (fieldV g (i * 6)) (hC.keep (by decide) rfl))
    · have e7 : θ 7 = .pointer (some ⟨g, i * 6 + 1, none⟩) := hT 7 (by decide) (by decide) (hdep 7 (by kernel_rfl))
      exact if_want (want_of ho (by kernel_rfl) _) (gives_load_mid 38 (.tmp 43) (op_of ho (by kernel_rfl)) g (i * 6 + 1) (seq_at (by kernel_rfl) (hsz _ (by decide)) e7) _ cur x.c (0, 0) _ qg hx Tryz.underlying38 rfl (VT.val_info _) (hC.keep (by decide) rfl))
    · have e8 : θ 8 = .agg x.c := hT 8 (by decide) (by decide) (hdep 8 (by kernel_rfl))
      exact if_want (want_of ho (by kernel_rfl) _) (gives_call_ex #[.tmp 44] #[38] (op_of ho (by kernel_rfl)) (f := 56) Tryz.func56 (by kernel_rfl) rfl #[.agg x.c] (one_arg (seq_at (by kernel_rfl) (hsz _ (by decide)) e8))
        ((HC W hB).mono fun e w' ⟨y, he, hy, hb⟩ => ⟨_, he, hC.call hb ⟨y, rfl, hy.low hB.size⟩⟩))
    · have e1 : θ 1 = .slice (some ⟨g, 0, none⟩) n c := hT 1 (by decide) (by decide) (hdep 1 (by kernel_rfl))
      have e2 : θ 2 = .int .i64 (i : Int) := hT 2 (by decide) (by decide) (hdep 2 (by kernel_rfl))
      exact if_want (want_of ho (by kernel_rfl) _) (gives_index_row 36 (.tmp 37) (.tmp 38) (op_of ho (by kernel_rfl)) (seq_at (by kernel_rfl) (hsz _ (by decide)) e1) (seq_at (by kernel_rfl) (hsz _ (by decide)) e2) hix (hC.keep (by decide) rfl))
    · have e10 : θ 10 = .pointer (some ⟨g, i * 6, none⟩) := hT 10 (by decide) (by decide) (hdep 10 (by kernel_rfl))
      exact if_want (want_of ho (by kernel_rfl) _) (gives_field 82 (.tmp 46) 1 (op_of ho (by kernel_rfl)) (seq_at (by kernel_rfl) (hsz _ (by decide)) e10) (fieldV g (i * 6)) (hC.keep (by decide) rfl))
  · intro θ L W hC hL
    obtain ⟨y, e8, hy⟩ := hC.2.2 (by rw [hL]; rfl)
    exact hend θ W y e8 (hC.1 11 (by decide) (by decide) (by rw [hL]; rfl)) hy hC.2.1
end Go.Proofs.YtffcpmohanhihaaGreatDoor
namespace Go.Proofs.YtffcpmohanhihaaGreatDoor
open Go.RowKit
set_option linter.unusedVariables false
set_option linter.unusedSimpArgs false
set_option linter.unusedSectionVars false
theorem all_mem {a : Array Value} (h : a.all (·.oneCell') = true) : ∀ u ∈ a.toList, u.oneCell' = true := fun u hu => by
  rw [← Array.all_toList] at h
  exact List.all_eq_true.1 h u hu
/-- A slice over a row of its own, at a block from B on. -/
def Cl (T : TypeId) (sz B n : Nat) (E : Nat → Array Value) (v : Value) (W : World) : Prop :=
  ∃ A g cap cur, v = .slice A n cap ∧ (0 < n → A = some ⟨g, 0, none⟩ ∧ B ≤ g ∧ W.heap[g]? = some (.cells cur T (0, 0)) ∧ cur.size = cap * sz ∧ n ≤ cap ∧ ∀ i, i < n → ∀ (j : Nat) u, (E i)[j]? = some u → cur[i * sz + j]? = some u)
theorem Cl.low {T : TypeId} {sz B B' n : Nat} {E : Nat → Array Value} {v : Value} {W : World} (h : Cl T sz B n E v W) (hB : B' ≤ B) : Cl T sz B' n E v W := by
  obtain ⟨A, g, cap, cur, hv, h⟩ := h
  exact ⟨A, g, cap, cur, hv, fun hn => by obtain ⟨h1, h2, h3⟩ := h hn; exact ⟨h1, Nat.le_trans hB h2, h3⟩⟩
theorem Cl.step {T : TypeId} {sz B n : Nat} {E : Nat → Array Value} {v : Value} {W W' : World} (h : Cl T sz B n E v W) (hb : Below W.heap.size W W') : Cl T sz B n E v W' := by
  obtain ⟨A, g, cap, cur, hv, h⟩ := h
  refine ⟨A, g, cap, cur, hv, fun hn => ?_⟩
  obtain ⟨h1, h2, h3, h4⟩ := h hn
  exact ⟨h1, h2, (hb.block g (Array.getElem?_eq_some_iff.1 h3).1).trans h3, h4⟩
theorem cl_of_row {T : TypeId} {sz B n : Nat} {E : Nat → Array Value} {v : Value} {W : World} (h0 : 0 < sz) (hE : ∀ i, ((E i).toList).length = sz) (h : W.ownsRow B T sz v n (flatL (fun i => (E i).toList) n)) (hv : v ≠ .slice none 0 0) : Cl T sz B n E v W := by
  obtain ⟨hl, h | ⟨g, cap, cur, e, hb, hg, hn, hc, hs, ht⟩⟩ := h
  · exact absurd h.1 hv
  · refine ⟨some ⟨g, 0, none⟩, g, cap, cur, e, fun _ => ⟨rfl, hb, hg, hs, hn, fun i hi j u hu => ?_⟩⟩
    have hj : j < sz := by have h1 := (Array.getElem?_eq_some_iff.1 hu).1; have h2 := hE i; simp at h2; omega
    have h1 := flatL_get (fun i => (E i).toList) sz hE n i j hi hj
    rw [← ht] at h1
    have hlt : i * sz + j < n * sz := by
      have : (i + 1) * sz ≤ n * sz := Nat.mul_le_mul_right sz hi
      rw [Nat.add_mul, Nat.one_mul] at this
      omega
    rw [List.getElem?_take_of_lt hlt] at h1
    have h2 : (E i).toList[j]? = some u := by rw [Array.getElem?_toList]; exact hu
    rw [← Array.getElem?_toList, h1]
    exact h2
theorem cl_nil {T : TypeId} {sz B : Nat} {E : Nat → Array Value} {W : World} : Cl T sz B 0 E (.slice none 0 0) W := ⟨none, 0, 0, #[], rfl, fun h => absurd h (Nat.lt_irrefl 0)⟩
theorem cloneV_any {w : World} {t : VT} (ht : VT.In w.heap.size w t) (hs : t.ln * 80 ≤ 140737488355328) :
    Calls Tryz.prog 86 #[.slice t.lA t.ln t.lc] w fun e w' => ∃ v, e = .returned v ∧ Cl 38 5 w.heap.size t.ln (fun i => (t.lt i).c) v w' ∧ Below w.heap.size w w' := by
  generalize hA : t.lA = A
  cases A with
  | none =>
    have h0 : t.ln = 0 := by
      rcases Nat.eq_zero_or_pos t.ln with h | h
      · exact h
      · have := (ht.here.la h).1; rw [hA] at this; cases this
    rw [h0]
    exact (cloneV_nil _ _ w).mono fun e w' ⟨he, hb⟩ => ⟨_, he, cl_nil, hb⟩
  | some ad =>
    refine (cloneV_some ad t.ln t.lc (flatL (fun i => (t.lt i).c.toList) t.ln) w (flatL_len _ 5 (fun i => rfl) _) hs ?_ (flatL_one _ _ (fun i => all_mem (VT.c_one _)))).mono fun e w' ⟨v, he, ho, hv, hb⟩ => ⟨v, he, cl_of_row (by decide) (fun i => rfl) ho hv, hb⟩
    intro j u hu
    obtain ⟨hi, hj⟩ := flatL_at _ 5 (fun i => rfl) (by decide) _ j u hu
    have had : ad = ⟨t.lb, t.lo, none⟩ := by have := (ht.here.la (by omega)).1; rw [hA] at this; exact Option.some.inj this
    subst had
    rw [add_row]
    have := ht.here.lcell (j / 5) hi (j % 5) u (by rw [← Array.getElem?_toList]; exact hj)
    rwa [show t.lo + j / 5 * 5 + j % 5 = t.lo + j by omega] at this
theorem cloneP_any {w : World} {t : VT} (ht : VT.In w.heap.size w t) (hs : t.mn * 96 ≤ 140737488355328) :
    Calls Tryz.prog 87 #[.slice t.mA t.mn t.mc] w fun e w' => ∃ v, e = .returned v ∧ Cl 82 6 w.heap.size t.mn (fun i => t.pc i) v w' ∧ Below w.heap.size w w' := by
  generalize hA : t.mA = A
  cases A with
  | none =>
    have h0 : t.mn = 0 := by
      rcases Nat.eq_zero_or_pos t.mn with h | h
      · exact h
      · have := (ht.here.ma h).1; rw [hA] at this; cases this
    rw [h0]
    exact (cloneP_nil _ _ w).mono fun e w' ⟨he, hb⟩ => ⟨_, he, cl_nil, hb⟩
  | some ad =>
    refine (cloneP_some ad t.mn t.mc (flatL (fun i => (t.pc i).toList) t.mn) w (flatL_len _ 6 (fun i => rfl) _) hs ?_ (flatL_one _ _ (fun i => all_mem (VT.pc_one _ _)))).mono fun e w' ⟨v, he, ho, hv, hb⟩ => ⟨v, he, cl_of_row (by decide) (fun i => rfl) ho hv, hb⟩
    intro j u hu
    obtain ⟨hi, hj⟩ := flatL_at _ 6 (fun i => rfl) (by decide) _ j u hu
    have had : ad = ⟨t.mb, t.mo, none⟩ := by have := (ht.here.ma (by omega)).1; rw [hA] at this; exact Option.some.inj this
    subst had
    rw [add_row]
    have := ht.here.mcell (j / 6) hi (j % 6) u (by rw [← Array.getElem?_toList]; exact hj)
    rwa [show t.mo + j / 6 * 6 + j % 6 = t.mo + j by omega] at this
/-- What was told, and two values of which something is known. -/
def HeadD (w0 : World) (val : Nat → Value) (n : Nat) (R S : Value → World → Prop) (θ : Nat → Value) (L : Nat → Bool) (W : World) : Prop :=
  (∀ i, i < n → i ≠ 2 → i ≠ 5 → L i = true → θ i = val i) ∧ Below w0.heap.size w0 W ∧ (L 2 = true → R (θ 2) W) ∧ (L 5 = true → S (θ 5) W)
theorem HeadD.keep {w0 : World} {val : Nat → Value} {n : Nat} {R S : Value → World → Prop} {θ : Nat → Value} {L : Nat → Bool} {W : World} (h : HeadD w0 val n R S θ L W) {i : Nat} (hi : i ≠ 2) (hi' : i ≠ 5) {v : Value} (hv : v = val i) : HeadD w0 val n R S (updV θ i v) (updL L i) W := by
  obtain ⟨h1, h2, h3, h4⟩ := h
  refine ⟨fun j hj hc hd hl => ?_, h2, fun hl => ?_, fun hl => ?_⟩
  · by_cases hji : j = i
    · subst hji; rw [updV_same]; exact hv
    · rw [updV_ne _ _ hji]; rw [updL_ne _ hji] at hl; exact h1 j hj hc hd hl
  · rw [updL_ne _ (Ne.symm hi)] at hl
    rw [updV_ne _ _ (Ne.symm hi)]
    exact h3 hl
  · rw [updL_ne _ (Ne.symm hi')] at hl
    rw [updV_ne _ _ (Ne.symm hi')]
    exact h4 hl
theorem HeadD.call2 {w0 : World} {val : Nat → Value} {n : Nat} {R S : Value → World → Prop} {θ : Nat → Value} {L : Nat → Bool} {W W' : World} (h : HeadD w0 val n R S θ L W) {v : Value} (hb : Below W.heap.size W W') (hR : R v W') (hS : ∀ v, S v W → S v W') : HeadD w0 val n R S (updV θ 2 v) (updL L 2) W' := by
  obtain ⟨h1, h2, h3, h4⟩ := h
  refine ⟨fun j hj hc hd hl => ?_, h2.trans (hb.mono h2.size), fun _ => by rw [updV_same]; exact hR, fun hl => ?_⟩
  · rw [updV_ne _ _ hc]; rw [updL_ne _ hc] at hl; exact h1 j hj hc hd hl
  · rw [updL_ne _ (by decide)] at hl; rw [updV_ne _ _ (by decide)]; exact hS _ (h4 hl)
theorem HeadD.call5 {w0 : World} {val : Nat → Value} {n : Nat} {R S : Value → World → Prop} {θ : Nat → Value} {L : Nat → Bool} {W W' : World} (h : HeadD w0 val n R S θ L W) {v : Value} (hb : Below W.heap.size W W') (hS : S v W') (hR : ∀ v, R v W → R v W') : HeadD w0 val n R S (updV θ 5 v) (updL L 5) W' := by
  obtain ⟨h1, h2, h3, h4⟩ := h
  refine ⟨fun j hj hc hd hl => ?_, h2.trans (hb.mono h2.size), fun hl => ?_, fun _ => by rw [updV_same]; exact hS⟩
  · rw [updV_ne _ _ hd]; rw [updL_ne _ hd] at hl; exact h1 j hj hc hd hl
  · rw [updL_ne _ (by decide)] at hl; rw [updV_ne _ _ (by decide)]; exact hR _ (h3 hl)
noncomputable def copy1 : Array Oper := regOf Tryz.f56 1
def val1 (b0 : Nat) (s3 s4 : Value) : Nat → Value := fun k => [.pointer (some ⟨b0, 3, none⟩), s3, undef, .pointer (some ⟨b0, 4, none⟩), s4, undef, .pointer (some ⟨b0, 3, none⟩)].getD k undef
set_option maxRecDepth 100000 in
set_option maxHeartbeats 1000000 in
theorem regCopy1 {ops : Array Oper} (hops : ops = copy1) {Q : Exit → Act → World → Prop} {a0 : Act} {wr : World} {b0 : Nat} {s3 s4 : Value} {box : Array Value} {RV RP : Value → World → Prop} (hz : 50 ≤ a0.tmps.size)
    (h1 : a0.eval (.tmp 1) = .pointer (some ⟨b0, 0, none⟩)) (hbox : wr.heap[b0]? = some (.cells box 38 (0, 0))) (hb3 : box[3]? = some s3) (hb4 : box[4]? = some s4)
    (HV : ∀ W, Below wr.heap.size wr W → Calls Tryz.prog 86 #[s3] W fun e w' => ∃ v, e = .returned v ∧ RV v w' ∧ Below W.heap.size W w')
    (HP : ∀ W, Below wr.heap.size wr W → Calls Tryz.prog 87 #[s4] W fun e w' => ∃ v, e = .returned v ∧ RP v w' ∧ Below W.heap.size W w')
    (kV : ∀ v W W', RV v W → Below W.heap.size W W' → RV v W') (kP : ∀ v W W', RP v W → Below W.heap.size W W' → RP v W')
    (hend : ∀ θ W, RV (θ 2) W → RP (θ 5) W → θ 6 = .pointer (some ⟨b0, 3, none⟩) → Below wr.heap.size wr W → wpList Tryz.prog ops Q (ops.toList.drop 7) (seqTo ops θ a0 7) W) :
    (Code.region 1 ops true).wp Tryz.prog Q a0 wr := by
  subst hops
  have hlb : b0 < wr.heap.size := (Array.getElem?_eq_some_iff.1 hbox).1
  have hsz : ∀ t, t < 50 → decide (t < a0.tmps.size) = true := fun t ht => decide_eq_true (by omega)
  refine wp_region_env 7 (by kernel_rfl) (by kernel_rfl) (by kernel_rfl) (of_decide_eq_true (by kernel_rfl)) (by kernel_rfl) (HeadD wr (val1 b0 s3 s4) 7 RV RP) ⟨fun _ => undef, ?_⟩ ?_ ?_
  · exact ⟨(fun i _ _ _ h => by cases h), (Below.refl _ _).drew, (fun h => by cases h), (fun h => by cases h)⟩
  · intro k o hk ho θ L W hC hLk hdep hlat
    have hT := hC.1
    have hB := hC.2.1
    have qb : W.heap[b0]? = some (.cells box 38 (0, 0)) := (hB.block b0 hlb).trans hbox
    rcases (show k = 0 ∨ k = 1 ∨ k = 2 ∨ k = 3 ∨ k = 4 ∨ k = 5 ∨ k = 6 by omega) with rfl | rfl | rfl | rfl | rfl | rfl | rfl
    · exact if_want (want_of ho (by kernel_rfl) _) (gives_field 38 (.tmp 1) 3 (op_of ho (by kernel_rfl)) (seq_old (by kernel_rfl) h1) (field3 b0) (hC.keep (by decide) (by decide) rfl))
    · have e0 : θ 0 = .pointer (some ⟨b0, 3, none⟩) := hT 0 (by decide) (by decide) (by decide) (hdep 0 (by kernel_rfl))
      exact if_want (want_of ho (by kernel_rfl) _) (gives_load_cell 35 (.tmp 5) (op_of ho (by kernel_rfl)) b0 3 (seq_at (by kernel_rfl) (hsz _ (by decide)) e0) _ box _ qb hb3 _ Tryz.underlying35 rfl (hC.keep (by decide) (by decide) rfl))
    · have e1 : θ 1 = s3 := hT 1 (by decide) (by decide) (by decide) (hdep 1 (by kernel_rfl))
      exact if_want (want_of ho (by kernel_rfl) _) (gives_call_ex #[.tmp 6] #[35] (op_of ho (by kernel_rfl)) (f := 86) Tryz.func86 (by kernel_rfl) rfl #[s3] (one_arg (seq_at (by kernel_rfl) (hsz _ (by decide)) e1))
        ((HV W hB).mono fun e w' ⟨v, he, hv, hb⟩ => ⟨v, he, hC.call2 hb hv fun v hS => kP v _ _ hS hb⟩))
    · exact if_want (want_of ho (by kernel_rfl) _) (gives_field 38 (.tmp 1) 4 (op_of ho (by kernel_rfl)) (seq_old (by kernel_rfl) h1) (field4 b0) (hC.keep (by decide) (by decide) rfl))
    · have e3 : θ 3 = .pointer (some ⟨b0, 4, none⟩) := hT 3 (by decide) (by decide) (by decide) (hdep 3 (by kernel_rfl))
      exact if_want (want_of ho (by kernel_rfl) _) (gives_load_cell 36 (.tmp 8) (op_of ho (by kernel_rfl)) b0 4 (seq_at (by kernel_rfl) (hsz _ (by decide)) e3) _ box _ qb hb4 _ Tryz.underlying36 rfl (hC.keep (by decide) (by decide) rfl))
    · have e4 : θ 4 = s4 := hT 4 (by decide) (by decide) (by decide) (hdep 4 (by kernel_rfl))
      exact if_want (want_of ho (by kernel_rfl) _) (gives_call_ex #[.tmp 9] #[36] (op_of ho (by kernel_rfl)) (f := 87) Tryz.func87 (by kernel_rfl) rfl #[s4] (one_arg (seq_at (by kernel_rfl) (hsz _ (by decide)) e4))
        ((HP W hB).mono fun e w' ⟨v, he, hv, hb⟩ => ⟨v, he, hC.call5 hb hv fun v hS => kV v _ _ hS hb⟩))
    · exact if_want (want_of ho (by kernel_rfl) _) (gives_field 38 (.tmp 1) 3 (op_of ho (by kernel_rfl)) (seq_old (by kernel_rfl) h1) (field3 b0) (hC.keep (by decide) (by decide) rfl))
  · intro θ L W hC hL
    exact hend θ W (hC.2.2.1 (by rw [hL]; rfl)) (hC.2.2.2 (by rw [hL]; rfl)) (hC.1 6 (by decide) (by decide) (by decide) (by rw [hL]; rfl)) hC.2.1
end Go.Proofs.YtffcpmohanhihaaGreatDoor
