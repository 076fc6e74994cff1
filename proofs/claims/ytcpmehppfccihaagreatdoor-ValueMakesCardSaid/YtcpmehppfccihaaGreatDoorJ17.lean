/-
  value.Bool; a pair built; rows of two pairs. No condition.
  Law 4's awake: the region that makes a list of four. No condition.
  A statement whose order Go leaves open, all of it only reads but one call, whose value is not the same in all worlds. No condition of a law's; a tool of the walks.
  Law 4's awake: its last statement's order, and what is asked of its one call that makes a copy. No condition.
-/
import Derived.Test.YtcpmehppfccihaaGreatDoorJ16
import Derived.Test.YtcpmehppfccihaaGreatDoorReg
import Derived.BigQuiet
namespace Go.Proofs.YtcpmehppfccihaaGreatDoor
open Go.RowKit
set_option linter.unusedVariables false
set_option linter.unusedSimpArgs false
set_option maxHeartbeats 1000000 in
theorem vBool_t (w : World) : Calls Tryz.prog 35 #[.bool true] w fun e w' => e = .returned (.agg (VT.leaf 1 1 ⟨#[]⟩).c) ∧ Below w.heap.size w w' := by
  have hS := Boxes.start w
  have b1 := build_k
  go_enter Tryz.func35, Tryz.ntmps35
  go_wp2_with (first | go_skip | ((with_reducible refine gate_op (op := .alloc 27) rfl ?_); refine alloc_arm rfl 27 rfl (val_alloc _) ?_; intro wn hbn hgn; have hS1 := hS.new hbn hgn; (try simp only [List.nil_append, List.cons_append, List.set_cons_zero, List.set_cons_succ] at hS1); clear hS hbn hgn; have hS := hS1; clear hS1) | ((with_reducible refine gate_op (op := .store 27 (.tmp 3) (.tmp 4)) rfl ?_); refine wpList_store_row rfl 27 (.tmp 3) (.tmp 4) rfl _ (VT.c (VT.leaf 1 0 ⟨#[]⟩)) rfl rfl 27 _ (hS.at_ 1 rfl) (VT.val_info _) rfl (VT.c_one _) ?_; intro wn hbn hgn hon hsn; have hS1 := hS.put 1 rfl hon hbn hgn; (try simp only [List.nil_append, List.cons_append, List.set_cons_zero, List.set_cons_succ] at hS1); clear hS hbn hgn hon hsn; have hS := hS1; clear hS1) | (refine store_elem rfl 2 (.tmp 6) _ rfl _ 1 _ rfl rfl rfl 27 _ _ (hS.at_ 1 rfl) rfl (by kernel_rfl) ?_; intro wn hgn hon hbn hsn; have hS1 := hS.put 1 rfl hon hbn hgn; (try simp only [List.nil_append, List.cons_append, List.set_cons_zero, List.set_cons_succ] at hS1); clear hS hbn hgn hon hsn; have hS := hS1; clear hS1) | ((with_reducible refine gate_op (op := .load 27 (.tmp 3)) rfl ?_); refine wpList_load_row' rfl 27 (.tmp 3) rfl _ rfl 27 _ (0, 0) _ (hS.at_ 1 rfl) Tryz.underlying27 rfl (VT.val_info (VT.leaf 1 1 ⟨#[]⟩)) ?_) | ((with_reducible refine gate_op (op := .store 27 (.tmp 2) (.tmp 7)) rfl ?_); refine wpList_store_row rfl 27 (.tmp 2) (.tmp 7) rfl _ (VT.c (VT.leaf 1 1 ⟨#[]⟩)) rfl rfl 27 _ (hS.at_ 0 rfl) (VT.val_info _) rfl (VT.c_one _) ?_; intro wn hbn hgn hon hsn; have hS1 := hS.put 0 rfl hon hbn hgn; (try simp only [List.nil_append, List.cons_append, List.set_cons_zero, List.set_cons_succ] at hS1); clear hS hbn hgn hon hsn; have hS := hS1; clear hS1))
  exact bodyPost_ret (v := .agg (VT.leaf 1 1 ⟨#[]⟩).c) (results_cell_row rfl _ _ _ _ _ _ _ rfl (hS.at_ 0 rfl) Tryz.underlying27 rfl (VT.val_info _)) rfl ⟨rfl, hS.below⟩
theorem build_p (k : ByteArray) (t : VT) (W : World) : (Instr.build 34 #[(0, .string k), (1, .agg t.c)]).run Tryz.prog W = .ok (.agg (pcK k t)) W := by kernel_rfl
theorem build_p0 (k : ByteArray) (W : World) : (Instr.build 34 #[(0, .string k)]).run Tryz.prog W = .ok (.agg (pcK k .no)) W := by kernel_rfl
theorem slice_p2 (k l : ByteArray) (t u : VT) (W : World) : (Instr.buildSlice 25 2 #[(0, .agg (pcK k t)), (1, .agg (pcK l u))]).run Tryz.prog W = .ok (.slice (some ⟨W.heap.size, 0, none⟩) 2 2) (W.alloc (.cells (pcK k t ++ pcK l u) 34)) := by kernel_rfl
theorem slice_p1 (k : ByteArray) (t : VT) (W : World) : (Instr.buildSlice 25 1 #[(0, .agg (pcK k t))]).run Tryz.prog W = .ok (.slice (some ⟨W.heap.size, 0, none⟩) 1 1) (W.alloc (.cells (pcK k t) 34)) := by kernel_rfl
theorem slice_v4 (a b c d : VT) (W : World) : (Instr.buildSlice 24 4 #[(0, .agg a.c), (1, .agg b.c), (2, .agg c.c), (3, .agg d.c)]).run Tryz.prog W = .ok (.slice (some ⟨W.heap.size, 0, none⟩) 4 4) (W.alloc (.cells (a.c ++ b.c ++ c.c ++ d.c) 27)) := by kernel_rfl
theorem slice_v2 (a b : VT) (W : World) : (Instr.buildSlice 24 2 #[(0, .agg a.c), (1, .agg b.c)]).run Tryz.prog W = .ok (.slice (some ⟨W.heap.size, 0, none⟩) 2 2) (W.alloc (.cells (a.c ++ b.c) 27)) := by kernel_rfl
theorem slice_v1 (a : VT) (W : World) : (Instr.buildSlice 24 1 #[(0, .agg a.c)]).run Tryz.prog W = .ok (.slice (some ⟨W.heap.size, 0, none⟩) 1 1) (W.alloc (.cells a.c 27)) := by kernel_rfl
def two {α : Type} (a b : α) (i : Nat) : α := if i = 0 then a else b
def four {α : Type} (a b c d : α) (i : Nat) : α := if i = 0 then a else if i = 1 then b else if i = 2 then c else d
theorem row_p2 (k l : ByteArray) (t u : VT) : ∀ i, i < 2 → ∀ (j : Nat) z, (pcK (two k l i) (two t u i))[j]? = some z → (pcK k t ++ pcK l u)[i * 6 + j]? = some z := by
  intro i hi j z hz
  have h6 : (pcK k t).size = 6 := rfl
  rcases (show i = 0 ∨ i = 1 by omega) with rfl | rfl
  · have hj : j < 6 := (Array.getElem?_eq_some_iff.1 hz).1
    rw [Nat.zero_mul, Nat.zero_add, Array.getElem?_append_left (by omega)]
    exact hz
  · rw [Array.getElem?_append_right (by omega), h6, show 1 * 6 + j - 6 = j by omega]
    exact hz
theorem row_v2 (t u : VT) : ∀ i, i < 2 → ∀ (j : Nat) z, (two t u i).c[j]? = some z → (t.c ++ u.c)[i * 5 + j]? = some z := by
  intro i hi j z hz
  have h6 : t.c.size = 5 := rfl
  rcases (show i = 0 ∨ i = 1 by omega) with rfl | rfl
  · have hj : j < 5 := (Array.getElem?_eq_some_iff.1 hz).1
    rw [Nat.zero_mul, Nat.zero_add, Array.getElem?_append_left (by omega)]
    exact hz
  · rw [Array.getElem?_append_right (by omega), h6, show 1 * 5 + j - 5 = j by omega]
    exact hz
theorem row_v4 (a b c d : VT) : ∀ i, i < 4 → ∀ (j : Nat) z, (four a b c d i).c[j]? = some z → (a.c ++ b.c ++ c.c ++ d.c)[i * 5 + j]? = some z := by
  intro i hi j z hz
  have hj : j < 5 := (Array.getElem?_eq_some_iff.1 hz).1
  have h1 : a.c.size = 5 := rfl
  have h2 : (a.c ++ b.c).size = 10 := by rw [Array.size_append]; rfl
  have h3 : (a.c ++ b.c ++ c.c).size = 15 := by rw [Array.size_append, h2]; rfl
  rcases (show i = 0 ∨ i = 1 ∨ i = 2 ∨ i = 3 by omega) with rfl | rfl | rfl | rfl
  · rw [Array.getElem?_append_left (by omega), Array.getElem?_append_left (by omega), Array.getElem?_append_left (by omega), Nat.zero_mul, Nat.zero_add]
    exact hz
  · rw [Array.getElem?_append_left (by omega), Array.getElem?_append_left (by omega), Array.getElem?_append_right (by omega), h1, show 1 * 5 + j - 5 = j by omega]
    exact hz
  · rw [Array.getElem?_append_left (by omega), Array.getElem?_append_right (by omega), h2, show 2 * 5 + j - 10 = j by omega]
    exact hz
  · rw [Array.getElem?_append_right (by omega), h3, show 3 * 5 + j - 15 = j by omega]
    exact hz
end Go.Proofs.YtcpmehppfccihaaGreatDoor
namespace Go.Proofs.YtcpmehppfccihaaGreatDoor
open Go.RowKit
set_option linter.unusedVariables false
set_option linter.unusedSimpArgs false
noncomputable def aw5 : Array Oper := regOf Tryz.f9 5
/-- A block with these cells, from B on. -/
def NewB (B : Nat) (cs : Array Value) (b : Nat) (W : World) : Prop := B ≤ b ∧ W.heap[b]? = some (.cells cs 27 (0, 0))
theorem NewB.step {B b : Nat} {cs : Array Value} {W W' : World} (h : NewB B cs b W) (hb : Below W.heap.size W W') : NewB B cs b W' := ⟨h.1, (hb.block b (Array.getElem?_eq_some_iff.1 h.2).1).trans h.2⟩
def R5 (B : Nat) (x0 x1 x2 : VT) (i : Nat) (v : Value) (W : World) : Prop := match i with
  | 0 => v = .agg x0.c
  | 1 => v = .agg x1.c
  | 2 => v = .agg x2.c
  | 3 => v = .agg VT.no.c
  | 4 => ∃ b, v = .slice (some ⟨b, 0, none⟩) 4 4 ∧ NewB B (x0.c ++ x1.c ++ x2.c ++ VT.no.c) b W
  | 5 => ∃ (b : Nat) (y : VT), v = .agg y.c ∧ Cop B (listT (some ⟨b, 0, none⟩) b 0 4 4 (four x0 x1 x2 .no)) y W
  | 6 => ∃ b, v = .pointer (some ⟨b, 0, none⟩) ∧ NewB B VT.no.c b W
  | _ => True
theorem R5_stab (w0 : World) (B : Nat) (x0 x1 x2 : VT) : Stab w0 (R5 B x0 x1 x2) := by
  intro i v W W' hb h h'
  match i, h with
  | 0, h => exact h
  | 1, h => exact h
  | 2, h => exact h
  | 3, h => exact h
  | 4, ⟨b, e, hn⟩ => exact ⟨b, e, hn.step h'⟩
  | 5, ⟨b, y, e, hy⟩ => exact ⟨b, y, e, hy.step h'⟩
  | 6, ⟨b, e, hn⟩ => exact ⟨b, e, hn.step h'⟩
  | n + 7, h => exact trivial
theorem four_in {x0 x1 x2 x3 : VT} (h0 : ∀ B W, VT.In B W x0) (h1 : ∀ B W, VT.In B W x1) (h2 : ∀ B W, VT.In B W x2) (h3 : ∀ B W, VT.In B W x3) (i : Nat) (B : Nat) (W : World) : VT.In B W (four x0 x1 x2 x3 i) := by
  unfold four
  (repeat' split) <;> first | exact h0 B W | exact h1 B W | exact h2 B W | exact h3 B W
theorem four_sm {x0 x1 x2 x3 : VT} (h0 : VT.Sm x0) (h1 : VT.Sm x1) (h2 : VT.Sm x2) (h3 : VT.Sm x3) (i : Nat) : VT.Sm (four x0 x1 x2 x3 i) := by
  unfold four
  (repeat' split) <;> assumption
set_option maxRecDepth 100000 in
set_option maxHeartbeats 1000000 in
theorem regAw5 {ops : Array Oper} (hops : ops = aw5) {Q : Exit → Act → World → Prop} {a0 : Act} {wr : World} {b1 b5 b7 : Nat} {x0 x1 x2 : VT} (hz : 150 ≤ a0.tmps.size)
    (h1 : a0.eval (.tmp 1) = .pointer (some ⟨b1, 0, none⟩)) (h5 : a0.eval (.tmp 5) = .pointer (some ⟨b5, 0, none⟩)) (h7 : a0.eval (.tmp 7) = .pointer (some ⟨b7, 0, none⟩))
    (g1 : wr.heap[b1]? = some (.cells x0.c 27 (0, 0))) (g5 : wr.heap[b5]? = some (.cells x1.c 27 (0, 0))) (g7 : wr.heap[b7]? = some (.cells x2.c 27 (0, 0)))
    (i0 : ∀ B W, VT.In B W x0) (i1 : ∀ B W, VT.In B W x1) (i2 : ∀ B W, VT.In B W x2) (s0 : VT.Sm x0) (s1 : VT.Sm x1) (s2 : VT.Sm x2)
    (hend : ∀ θ W (b b' : Nat) (y : VT), θ 5 = .agg (VT.c y) → θ 6 = .pointer (some ⟨b, 0, none⟩) → Cop wr.heap.size (listT (some ⟨b', 0, none⟩) b' 0 4 4 (four x0 x1 x2 .no)) y W → NewB wr.heap.size VT.no.c b W → Below wr.heap.size wr W → wpList Tryz.prog ops Q (ops.toList.drop 7) (seqTo ops θ a0 7) W) :
    (Code.region 5 ops true).wp Tryz.prog Q a0 wr := by
  subst hops
  have hl1 : b1 < wr.heap.size := (Array.getElem?_eq_some_iff.1 g1).1
  have hl5 : b5 < wr.heap.size := (Array.getElem?_eq_some_iff.1 g5).1
  have hl7 : b7 < wr.heap.size := (Array.getElem?_eq_some_iff.1 g7).1
  have hsz : ∀ t, t < 150 → decide (t < a0.tmps.size) = true := fun t ht => decide_eq_true (by omega)
  have hst := R5_stab wr wr.heap.size x0 x1 x2
  refine wp_region_env 7 (by kernel_rfl) (by kernel_rfl) (by kernel_rfl) (of_decide_eq_true (by kernel_rfl)) (by kernel_rfl) (EnvC wr 7 (R5 wr.heap.size x0 x1 x2)) EnvC.start ?_ ?_
  · intro k o hk ho θ L W hC hLk hdep hlat
    have hB := hC.1
    rcases (show k = 0 ∨ k = 1 ∨ k = 2 ∨ k = 3 ∨ k = 4 ∨ k = 5 ∨ k = 6 by omega) with rfl | rfl | rfl | rfl | rfl | rfl | rfl
    · exact if_want (want_of ho (by kernel_rfl) _) (gives_load_row 27 (.tmp 1) (op_of ho (by kernel_rfl)) b1 (seq_old (by kernel_rfl) h1) _ x0.c (0, 0) _ ((hB.block b1 hl1).trans g1) Tryz.underlying27 rfl (VT.val_info _) (hC.keep hst rfl))
    · exact if_want (want_of ho (by kernel_rfl) _) (gives_load_row 27 (.tmp 5) (op_of ho (by kernel_rfl)) b5 (seq_old (by kernel_rfl) h5) _ x1.c (0, 0) _ ((hB.block b5 hl5).trans g5) Tryz.underlying27 rfl (VT.val_info _) (hC.keep hst rfl))
    · exact if_want (want_of ho (by kernel_rfl) _) (gives_load_row 27 (.tmp 7) (op_of ho (by kernel_rfl)) b7 (seq_old (by kernel_rfl) h7) _ x2.c (0, 0) _ ((hB.block b7 hl7).trans g7) Tryz.underlying27 rfl (VT.val_info _) (hC.keep hst rfl))
    · exact if_want (want_of ho (by kernel_rfl) _) (gives_callf #[] #[] (op_of ho (by kernel_rfl)) (f := 36) Tryz.func36 (by kernel_rfl) rfl #[] (by simp) (vNull_any W) (fun W' hb => hC.put hst hb rfl))
    · have e0 : θ 0 = .agg x0.c := hC.2 0 (by decide) (hdep 0 (by kernel_rfl))
      have e1 : θ 1 = .agg x1.c := hC.2 1 (by decide) (hdep 1 (by kernel_rfl))
      have e2 : θ 2 = .agg x2.c := hC.2 2 (by decide) (hdep 2 (by kernel_rfl))
      have e3 : θ 3 = .agg VT.no.c := hC.2 3 (by decide) (hdep 3 (by kernel_rfl))
      refine if_want (want_of ho (by kernel_rfl) _) (gives_slice 24 4 #[(0, .tmp 33), (1, .tmp 34), (2, .tmp 35), (3, .tmp 36)] (op_of ho (by kernel_rfl)) #[(0, .agg x0.c), (1, .agg x1.c), (2, .agg x2.c), (3, .agg VT.no.c)] ?_ _ _ (slice_v4 x0 x1 x2 .no W) (hC.put hst (Below.alloc (Below.refl _ _) (Nat.le_refl _) _) ⟨W.heap.size, rfl, hB.size, heap_alloc_new _ _⟩))
      simp only [List.map_toArray, List.map_cons, List.map_nil, seq_at (ops := aw5) (θ := θ) (a0 := a0) (n := 4) (t := 33) (j := 0) (by kernel_rfl) (hsz _ (by decide)) e0, seq_at (ops := aw5) (θ := θ) (a0 := a0) (n := 4) (t := 34) (j := 1) (by kernel_rfl) (hsz _ (by decide)) e1, seq_at (ops := aw5) (θ := θ) (a0 := a0) (n := 4) (t := 35) (j := 2) (by kernel_rfl) (hsz _ (by decide)) e2, seq_at (ops := aw5) (θ := θ) (a0 := a0) (n := 4) (t := 36) (j := 3) (by kernel_rfl) (hsz _ (by decide)) e3]
    · obtain ⟨b, e4, hn⟩ : ∃ b, θ 4 = .slice (some ⟨b, 0, none⟩) 4 4 ∧ NewB wr.heap.size (x0.c ++ x1.c ++ x2.c ++ VT.no.c) b W := hC.2 4 (by decide) (hdep 4 (by kernel_rfl))
      have ht := list_in (c := 4) hn.2 (row_v4 x0 x1 x2 .no) (by decide) (fun i _ => four_in i0 i1 i2 VT.no_in i W.heap.size W)
      exact if_want (want_of ho (by kernel_rfl) _) (gives_call_ex #[.tmp 37] #[24] (op_of ho (by kernel_rfl)) (f := 29) Tryz.func29 (by kernel_rfl) rfl #[.slice (some ⟨b, 0, none⟩) 4 4] (one_arg (seq_at (by kernel_rfl) (hsz _ (by decide)) e4))
        ((vList_any _ b 0 4 4 _ W ht (list_sm (by decide) (fun i _ => four_sm s0 s1 s2 VT.no_sm i))).mono fun e w' ⟨y, he, hy, hb⟩ => ⟨_, he, hC.put hst hb ⟨b, y, rfl, hy.low hB.size⟩⟩))
    · exact if_want (want_of ho (by kernel_rfl) _) (gives_alloc 27 (op_of ho (by kernel_rfl)) (.agg VT.no.c) (by kernel_rfl) (hC.put hst (Below.alloc (Below.refl _ _) (Nat.le_refl _) _) ⟨W.heap.size, rfl, hB.size, heap_alloc_new _ _⟩))
  · intro θ L W hC hL
    obtain ⟨b', y, e5, hy⟩ := hC.2 5 (by decide) (by rw [hL]; rfl)
    obtain ⟨b, e6, hn⟩ := hC.2 6 (by decide) (by rw [hL]; rfl)
    exact hend θ W b b' y e5 e6 hy hn hC.1
end Go.Proofs.YtcpmehppfccihaaGreatDoor
namespace Go.Proofs.YtcpmehppfccihaaGreatDoor
set_option linter.unusedVariables false
set_option linter.unusedSimpArgs false
section
variable {P : Program} {ops : Array Oper} {Q : Exit → Act → World → Prop}
theorem seqTo_slot (t : Tmp) (θ θ' : Nat → Value) (a0 : Act) (n : Nat) (h : ∀ j, j < n → dstOf ops j = some t → θ j = θ' j) : (seqTo ops θ a0 n).tmps[t]? = (seqTo ops θ' a0 n).tmps[t]? := by
  have e : ∀ θ, seqTo ops θ a0 n = putTo ops θ (fun _ => true) a0 n := fun θ => (putTo_all θ (fun _ => true) a0 n (fun _ _ => rfl)).symm
  rw [e, e]
  exact putTo_slot t θ θ' _ _ a0 n (fun j hj hd => ⟨rfl, fun _ => h j hj hd⟩)
theorem seq_looks (hB : ordOK ops = true) {i : Nat} {o : Oper} (ho : ops[i]? = some o) {θ θ' : Nat → Value} (h : ∀ j, j < i → waits ops i j = true → θ j = θ' j) (a0 : Act) :
    ∀ t, t ∈ o.looksAt ops → (seqTo ops θ a0 i).tmps[t]? = (seqTo ops θ' a0 i).tmps[t]? := by
  intro t ht
  have hi : i < ops.size := (Array.getElem?_eq_some_iff.1 ho).1
  refine seqTo_slot t θ θ' a0 i fun j hj hd => h j hj ?_
  obtain ⟨oj, hoj, hdj⟩ : ∃ oj, ops[j]? = some oj ∧ oj.dst = some t := by
    unfold dstOf at hd
    cases h : ops[j]? with
    | none => simp [h] at hd
    | some oj => exact ⟨oj, rfl, by simpa [h] using hd⟩
  refine (ordOK_spec hB hi (by omega)).2.2 hj ?_
  simp only [meets, hoj, ho, Bool.not_eq_true', Oper.apart, hdj]
  simp [ht]
theorem gives_eq {o : Oper} {a b : Act} {w : World} {R : Value → World → Prop} (h : execOp a.eval o = execOp b.eval o) : gives P o a w R = gives P o b w R := by
  unfold gives
  rw [h]
theorem gives_imp {o : Oper} {a : Act} {w : World} {R R' : Value → World → Prop} (h : gives P o a w R) (hR : ∀ v w', R v w' → R' v w') : gives P o a w R' := by
  unfold gives at *
  generalize (execOp a.eval o).run P w = r at *
  cases r with
  | halt x w' => exact h
  | ok nx w' =>
    cases nx with
    | value u => exact hR _ _ h
    | skip => exact hR _ _ h
    | enter f args => exact Calls.mono h (fun e w'' ⟨v, he, hv⟩ => ⟨v, he, hR _ _ hv⟩)
    | _ => exact h.elim
/-- A load only reads. -/
def loadAt (ops : Array Oper) (i : Nat) : Bool := match ops[i]? with
  | some o => (match o.op with | .load .. => true | _ => false)
  | none => false
theorem gives_of_load {o : Oper} {a : Act} {C : World → Prop} {w : World} {v : Value} (hl : (match o.op with | .load .. => true | _ => false) = true) (h : o.quietAt P a C w v) : gives P o a w (fun u w' => u = v ∧ w' = w) := by
  obtain ⟨t, x, ho⟩ : ∃ t x, o.op = .load t x := by
    split at hl
    · rename_i t x ho; exact ⟨t, x, ho⟩
    · cases hl
  unfold Oper.quietAt execOp at h
  unfold gives execOp
  simp only [ho, Sem.run_bind] at h ⊢
  generalize (Instr.loadAt t (a.eval x)).run P w = r at *
  cases r with
  | halt x w' => exact h
  | ok nx w' =>
    simp only [Result.andThen_ok, Sem.run_pure, Oper.quietUpon] at h ⊢
    exact ⟨h.2, h.1⟩
/-- What is asked of the one call: all behind it in the text wait for it; what it does not wait for are loads. -/
def midOK (ops : Array Oper) (c : Nat) : Bool := (List.range ops.size).all fun k => (decide (k ≤ c) || waits ops k c) && (decide (c ≤ k) || waits ops c k || loadAt ops k)
theorem tail_all (ops : Array Oper) : tailOK ops ops.size = true := by
  unfold tailOK
  rw [List.all_eq_true]
  intro k hk
  rw [decide_eq_true (List.mem_range.1 hk)]
  rfl
theorem wp_region_mid {id : Nat} {a0 : Act} {w0 : World} {l : List Oper} (ops' : Array Oper) (he : l.toArray = ops') (c : Nat) (hm : P.follows .mixedOrders = true) (hs : Region.noSelect ops' = true) (hB : ordOK ops' = true) (hcl : c < l.length) (hM : midOK ops' c = true) (C : World → Prop) (R : Value → World → Prop)
    (hC : C { w0 with drawn := w0.drawn + 1 })
    (h : wpQuiet P l.toArray C (fun a => ∀ o, l.toArray[c]? = some o → Region.wanted o (yielded l.toArray a.tmps) = true ∧ (∀ w, C w → gives P o a w (fun v w' => C w' ∧ R v w')) ∧
      ∀ v, (∃ w, C w ∧ R v w) → wpQuiet P l.toArray (fun w => C w ∧ R v w) (fun a => ∀ w, C w → R v w → Q .normal a w) (l.drop (c + 1)) (a.put o.dst v)) (l.take c) a0) : (Code.region id l.toArray true).wp P Q a0 w0 := by
  subst he
  have hsel : ∀ (i : Nat) o, l.toArray[i]? = some o → ∀ cs b, o.op ≠ .select cs b := fun i o ho cs b => Region.noSelect_spec hs i o cs b ho
  have hsz : l.toArray.size = l.length := by simp
  obtain ⟨val, _, hval, hE⟩ := quiet_values (ops := l.toArray) (a0 := a0) (l.take c) 0 (fun _ => undef) (fun j hj => by
    have hj' : j < c := by simp at hj; omega
    simp [List.getElem?_take, hj']) h
  have hl0 : 0 + (l.take c).length = c := by simp; omega
  rw [hl0] at hE hval
  obtain ⟨oc, hoc⟩ : ∃ oc, l.toArray[c]? = some oc := ⟨_, Array.getElem?_eq_getElem (by rw [hsz]; exact hcl)⟩
  obtain ⟨hwc, hgc, hqc⟩ := hE oc hoc
  have hdst : dstOf l.toArray c = oc.dst := by simp [dstOf, hoc]
  have hex : ∀ v, ∃ θ : Nat → Value, (∃ w, C w ∧ R v w) → (∀ j, j < c + 1 → θ j = updV val c v j) ∧ (∀ i o, c + 1 ≤ i → i < l.length → l.toArray[i]? = some o → if Region.wanted o (yielded l.toArray (seqTo l.toArray θ a0 i).tmps) then ∀ w, (C w ∧ R v w) → o.quietAt P (seqTo l.toArray θ a0 i) (fun w => C w ∧ R v w) w (θ i) else θ i = undef) ∧
      (∀ w, C w → R v w → Q .normal (seqTo l.toArray θ a0 l.length) w) := fun v => by
    by_cases hv : ∃ w, C w ∧ R v w
    · have e1 : seqTo l.toArray (updV val c v) a0 (c + 1) = (seqTo l.toArray val a0 c).put oc.dst v := by
        simp only [seqTo, updV_same, hdst, seqTo_congr (updV val c v) val a0 c (fun j hj => updV_ne _ _ (by omega))]
      have hq := hqc v hv
      rw [← e1] at hq
      obtain ⟨θ, h1, h2, h3⟩ := quiet_values (ops := l.toArray) (a0 := a0) (l.drop (c + 1)) (c + 1) (updV val c v) (fun j hj => by simp) hq
      have hl1 : c + 1 + (l.drop (c + 1)).length = l.length := by simp; omega
      rw [hl1] at h2 h3
      exact ⟨θ, fun _ => ⟨h1, h2, h3⟩⟩
    · exact ⟨fun _ => undef, fun h => absurd h hv⟩
  have hF : ∃ F : Value → Nat → Value, ∀ v, (∃ w, C w ∧ R v w) → (∀ j, j < c + 1 → F v j = updV val c v j) ∧ (∀ i o, c + 1 ≤ i → i < l.length → l.toArray[i]? = some o → if Region.wanted o (yielded l.toArray (seqTo l.toArray (F v) a0 i).tmps) then ∀ w, (C w ∧ R v w) → o.quietAt P (seqTo l.toArray (F v) a0 i) (fun w => C w ∧ R v w) w (F v i) else F v i = undef) ∧
      (∀ w, C w → R v w → Q .normal (seqTo l.toArray (F v) a0 l.length) w) := ⟨fun v => Classical.choose (hex v), fun v => Classical.choose_spec (hex v)⟩
  obtain ⟨F, hF⟩ := hF
  have hmid : ∀ k, k < l.length → (k ≤ c ∨ waits l.toArray k c = true) ∧ (c ≤ k ∨ waits l.toArray c k = true ∨ loadAt l.toArray k = true) := fun k hk => by
    have := List.all_eq_true.1 hM k (List.mem_range.2 (by rw [hsz]; exact hk))
    simp only [Bool.and_eq_true, Bool.or_eq_true, decide_eq_true_eq] at this
    exact ⟨this.1, by rcases this.2 with (h | h) | h <;> simp [h]⟩
  refine wp_region_env l.toArray.size hm hs hB (Nat.le_refl _) (tail_all _) (fun θ L w => C w ∧ (∀ i, i < c → L i = true → θ i = val i) ∧ (L c = true → R (θ c) w ∧ ∀ i, c < i → L i = true → θ i = F (θ c) i) ∧ (∀ i, c < i → L i = true → L c = true)) ⟨fun _ => undef, hC, (fun i _ h => by cases h), (fun h => by cases h), (fun i _ h => by cases h)⟩ ?_ ?_
  · intro i o hi ho θ L w hc hLi hdep hlat
    obtain ⟨hCw, h1, h2, h3⟩ := hc
    rw [hsz] at hi
    rcases Nat.lt_trichotomy i c with hic | hic | hic
    · -- ahead of the call
      have hl := seq_looks hB ho (θ := θ) (θ' := val) (fun j hj hw => h1 j (by omega) (hdep j hw)) a0
      obtain ⟨e1, e2⟩ := looks_congr (hsel i o ho) hl
      have hv := hval i o (Nat.zero_le _) hic ho
      have hne : c ≠ i := by omega
      rw [e2]
      split
      · rename_i hwt
        rw [if_pos hwt] at hv
        rw [gives_eq e1]
        cases hLc : L c with
        | false =>
          refine gives_imp (gives_of_quietAt hCw (hv w hCw)) ?_
          rintro u w' ⟨rfl, hw'⟩
          refine ⟨hw', fun j hj hl => ?_, fun hl => ?_, fun j hj hl => ?_⟩
          · by_cases hji : j = i
            · subst hji; exact updV_same ..
            · rw [updV_ne _ _ hji]; rw [updL_ne _ hji] at hl; exact h1 j hj hl
          · rw [updL_ne _ hne, hLc] at hl; cases hl
          · rw [updL_ne _ (by omega)] at hl
            rw [updL_ne _ hne]
            exact h3 j hj hl
        | true =>
          have hld : loadAt l.toArray i = true := by
            rcases (hmid i hi).2 with h | h | h
            · omega
            · have := hlat c h; rw [hLc] at this; cases this
            · exact h
          have hld' : (match o.op with | .load .. => true | _ => false) = true := by unfold loadAt at hld; rw [ho] at hld; exact hld
          refine gives_imp (gives_of_load hld' (hv w hCw)) ?_
          rintro u w' ⟨rfl, rfl⟩
          obtain ⟨h2a, h2b⟩ := h2 hLc
          refine ⟨hCw, fun j hj hl => ?_, fun hl => ?_, fun j hj hl => ?_⟩
          · by_cases hji : j = i
            · subst hji; exact updV_same ..
            · rw [updV_ne _ _ hji]; rw [updL_ne _ hji] at hl; exact h1 j hj hl
          · rw [updV_ne _ _ hne]
            refine ⟨h2a, fun j hj hl => ?_⟩
            rw [updV_ne _ _ (by omega)]
            rw [updL_ne _ (by omega)] at hl
            exact h2b j hj hl
          · rw [updL_ne _ hne]; exact hLc
      · rename_i hwt
        rw [if_neg hwt] at hv
        refine ⟨hCw, fun j hj hl => ?_, fun hl => ?_, fun j hj hl => ?_⟩
        · by_cases hji : j = i
          · subst hji; rw [updV_same]; exact hv.symm
          · rw [updV_ne _ _ hji]; rw [updL_ne _ hji] at hl; exact h1 j hj hl
        · rw [updL_ne _ hne] at hl
          obtain ⟨h2a, h2b⟩ := h2 hl
          rw [updV_ne _ _ hne]
          refine ⟨h2a, fun j hj hl => ?_⟩
          rw [updV_ne _ _ (by omega)]
          rw [updL_ne _ (by omega)] at hl
          exact h2b j hj hl
        · rw [updL_ne _ (by omega)] at hl
          rw [updL_ne _ hne]
          exact h3 j hj hl
    · subst hic
      obtain rfl : o = oc := Option.some.inj (ho.symm.trans hoc)
      have hl := seq_looks hB ho (θ := θ) (θ' := val) (fun j hj hw => h1 j hj (hdep j hw)) a0
      obtain ⟨e1, e2⟩ := looks_congr (hsel i o ho) hl
      rw [e2, if_pos hwc, gives_eq e1]
      refine gives_imp (hgc w hCw) ?_
      rintro u w' ⟨hw', hR⟩
      refine ⟨hw', fun j hj hl => ?_, fun hl => ?_, fun j hj hl => updL_same ..⟩
      · rw [updV_ne _ _ (by omega)]; rw [updL_ne _ (by omega)] at hl; exact h1 j hj hl
      · rw [updV_same]
        refine ⟨hR, fun j hj hl => ?_⟩
        rw [updL_ne _ (by omega)] at hl
        have := h3 j hj hl
        rw [hLi] at this
        cases this
    · have hLc : L c = true := by
        rcases (hmid i hi).1 with h | h
        · omega
        · exact hdep c h
      obtain ⟨h2a, h2b⟩ := h2 hLc
      obtain ⟨f1, f2, f3⟩ := hF (θ c) ⟨w, hCw, h2a⟩
      have hl := seq_looks hB ho (θ := θ) (θ' := F (θ c)) (fun j hj hw => by
        have hLj := hdep j hw
        rcases Nat.lt_trichotomy j c with hjc | hjc | hjc
        · rw [h1 j hjc hLj, f1 j (by omega), updV_ne _ _ (by omega)]
        · subst hjc; rw [f1 j (by omega), updV_same]
        · exact h2b j hjc hLj) a0
      obtain ⟨e1, e2⟩ := looks_congr (hsel i o ho) hl
      have hv := f2 i o (by omega) hi ho
      have hne : c ≠ i := by omega
      rw [e2]
      split
      · rename_i hwt
        rw [if_pos hwt] at hv
        rw [gives_eq e1]
        refine gives_imp (gives_of_quietAt (C := fun w => C w ∧ R (θ c) w) ⟨hCw, h2a⟩ (hv w ⟨hCw, h2a⟩)) ?_
        rintro u w' ⟨rfl, hw', hR'⟩
        refine ⟨hw', fun j hj hl => ?_, fun hl => ?_, fun j hj hl => ?_⟩
        · rw [updV_ne _ _ (by omega)]; rw [updL_ne _ (by omega)] at hl; exact h1 j hj hl
        · rw [updV_ne _ _ hne]
          refine ⟨hR', fun j hj hl => ?_⟩
          by_cases hji : j = i
          · subst hji; exact updV_same ..
          · rw [updV_ne _ _ hji]; rw [updL_ne _ hji] at hl; exact h2b j hj hl
        · rw [updL_ne _ hne]; exact hLc
      · rename_i hwt
        rw [if_neg hwt] at hv
        refine ⟨hCw, fun j hj hl => ?_, fun hl => ?_, fun j hj hl => ?_⟩
        · rw [updV_ne _ _ (by omega)]; rw [updL_ne _ (by omega)] at hl; exact h1 j hj hl
        · rw [updV_ne _ _ hne]
          refine ⟨h2a, fun j hj hl => ?_⟩
          by_cases hji : j = i
          · subst hji; rw [updV_same]; exact hv.symm
          · rw [updV_ne _ _ hji]; rw [updL_ne _ hji] at hl; exact h2b j hj hl
        · rw [updL_ne _ hne]; exact hLc
  · intro θ L w hc hL
    obtain ⟨hCw, h1, h2, h3⟩ := hc
    have hall : ∀ j, j < l.length → L j = true := fun j hj => by rw [hL]; simpa using hj
    obtain ⟨h2a, h2b⟩ := h2 (hall c hcl)
    obtain ⟨f1, f2, f3⟩ := hF (θ c) ⟨w, hCw, h2a⟩
    have e : seqTo l.toArray θ a0 l.toArray.size = seqTo l.toArray (F (θ c)) a0 l.length := by
      rw [hsz]
      refine seqTo_congr _ _ _ _ fun j hj => ?_
      rcases Nat.lt_trichotomy j c with hjc | hjc | hjc
      · rw [h1 j hjc (hall j hj), f1 j (by omega), updV_ne _ _ (by omega)]
      · subst hjc; rw [f1 j (by omega), updV_same]
      · exact h2b j hjc (hall j hj)
    rw [e]
    have hd : l.toArray.toList.drop l.toArray.size = [] := by simp
    rw [hd]
    exact f3 w hCw h2a
/-- In such a region: a call, told in all worlds of the class. -/
theorem q_call {C : World → Prop} {E : Act → Prop} {rest : List Oper} {o : Oper} {a : Act} (hwt : Region.wanted o (yielded ops a.tmps) = true) {f : FuncId} {fn : Func} {c : Code} (xs : Array Operand) (ts : Array TypeId) (ho : o.op = .call { callee := .value (.func f), args := xs, argTypes := ts }) (hf : P.funcs[f]? = some fn) (hn : (fn.name == "runtime.NumGoroutine") = false) (hb : fn.body = some c) (vs : Array Value) (hx : xs.map a.eval = vs) {v : Value}
    (hc : ∀ w, C w → Calls P f vs w fun e w' => e = .returned v ∧ C w') (h : wpQuiet P ops C E rest (a.put o.dst v)) : wpQuiet P ops C E (o :: rest) a :=
  BigFrame.wpQuiet_want hwt fun K hK => ⟨v, fun w hw => by
    have he : (execOp a.eval o).run P w = .ok (.enter f vs) w := by
      have h1 : fn.name ≠ "runtime.NumGoroutine" := by simpa using hn
      unfold execOp
      simp only [ho, resolve, hx, Act.eval, Deferred.ofValue, Sem.run_bind, Sem.run_pure, Result.andThen_ok]
      simp [invoke, callFunc, hf, h1, hb, mark]
    unfold Oper.quietAt
    rw [he]
    exact ⟨rfl, hc w hw⟩, hK _ h⟩
/-- .. an operation that looks at no memory. -/
theorem q_pure {C : World → Prop} {E : Act → Prop} {rest : List Oper} {o : Oper} {a : Act} (hwt : Region.wanted o (yielded ops a.tmps) = true) (v : Value) (hr : ∀ w, (execOp a.eval o).run P w = .ok (.value v) w) (h : wpQuiet P ops C E rest (a.put o.dst v)) : wpQuiet P ops C E (o :: rest) a :=
  BigFrame.wpQuiet_want hwt fun K hK => ⟨v, fun w hw => by
    unfold Oper.quietAt
    rw [hr w]
    exact ⟨rfl, rfl⟩, hK _ h⟩
theorem q_pick {C : World → Prop} {E : Act → Prop} {rest : List Oper} {o : Oper} {a : Act} (hwt : Region.wanted o (yielded ops a.tmps) = true) (c x z : Operand) (ho : o.op = .pick c x z) (b : Bool) (hc : a.eval c = .bool b) {v : Value} (hv : (if b then a.eval x else a.eval z) = v) (h : wpQuiet P ops C E rest (a.put o.dst v)) : wpQuiet P ops C E (o :: rest) a :=
  q_pure hwt v (fun w => by unfold execOp; simp only [ho, hc, asBool, Sem.run_bind, Sem.run_pure, Result.andThen_ok, hv]) h
theorem q_move {C : World → Prop} {E : Act → Prop} {rest : List Oper} {o : Oper} {a : Act} (hwt : Region.wanted o (yielded ops a.tmps) = true) (x : Operand) (ho : o.op = .move x ∨ o.op = .assign x) {v : Value} (hv : a.eval x = v) (h : wpQuiet P ops C E rest (a.put o.dst v)) : wpQuiet P ops C E (o :: rest) a :=
  q_pure hwt v (fun w => by unfold execOp; rcases ho with ho | ho <;> simp only [ho, hv, Sem.run_pure]) h
theorem q_not {C : World → Prop} {E : Act → Prop} {rest : List Oper} {o : Oper} {a : Act} (hwt : Region.wanted o (yielded ops a.tmps) = true) (t : TypeId) (x : Operand) (ho : o.op = .unOp .not t x) (b : Bool) (hc : a.eval x = .bool b) (h : wpQuiet P ops C E rest (a.put o.dst (.bool !b))) : wpQuiet P ops C E (o :: rest) a :=
  q_pure hwt _ (fun w => by unfold execOp; simp only [ho, hc]; rfl) h
end
end Go.Proofs.YtcpmehppfccihaaGreatDoor
namespace Go.Proofs.YtcpmehppfccihaaGreatDoor
open Go.RowKit
noncomputable def aw7 : Array Oper := regOf Tryz.f9 7
theorem aw7_ord : ordOK aw7 = true := by kernel_rfl
theorem aw7_mid : midOK aw7 93 = true := by kernel_rfl
theorem aw7_sel : Region.noSelect aw7 = true := by kernel_rfl
end Go.Proofs.YtcpmehppfccihaaGreatDoor
