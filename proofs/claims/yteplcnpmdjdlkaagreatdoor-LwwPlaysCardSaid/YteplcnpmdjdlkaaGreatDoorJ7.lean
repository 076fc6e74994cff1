/-
  What a walk knows of blocks that the call made, each apart from the others: 'Boxes'. No condition.
  value.Same and ops.zero tell what is written here, for all trees. No condition.
  ops.zero tells what is written here, for all trees. No condition.
  An operation over a tree; ops.Good at it. Condition: the library's variables as it lays them.
  A value's block made; values built. No condition.
  The reference's Op, operations of kind 2. Condition: what zero, Value tell is known.
-/
import Derived.Test.YteplcnpmdjdlkaaGreatDoorJ6
import Derived.Test.YteplcnpmdjdlkaaGreatDoorSameJ
import Derived.Test.YteplcnpmdjdlkaaGreatDoorOpGoodJ
import Derived.Test.YteplcnpmdjdlkaaGreatDoorJ10
import Derived.Test.YteplcnpmdjdlkaaGreatDoorJ9
import Derived.Test.YteplcnpmdjdlkaaGreatDoorJ25
namespace Go.Proofs.YteplcnpmdjdlkaaGreatDoor
open Go.RowKit
set_option linter.unusedVariables false
set_option linter.unusedSimpArgs false
structure Boxes (w0 W : World) (L : List (Nat × Obj)) : Prop where
  below : Below w0.heap.size w0 W
  rows : ∀ (i : Nat) p, L[i]? = some p → w0.heap.size ≤ p.1 ∧ W.heap[p.1]? = some p.2
  apart : ∀ (i j : Nat) p q, L[i]? = some p → L[j]? = some q → i ≠ j → p.1 ≠ q.1
namespace Boxes
variable {w0 W W' : World} {L : List (Nat × Obj)} {b : Nat} {o o' : Obj}
theorem start (w : World) : Boxes w w [] := ⟨Below.refl _ _, fun i p hp => by simp at hp, fun i j p q hp => by simp at hp⟩
theorem at_ (h : Boxes w0 W L) (i : Nat) {p : Nat × Obj} (hp : L[i]? = some p) : W.heap[p.1]? = some p.2 := (h.rows i p hp).2
theorem lt (h : Boxes w0 W L) (i : Nat) {p : Nat × Obj} (hp : L[i]? = some p) : p.1 < W.heap.size := (Array.getElem?_eq_some_iff.1 (h.at_ i hp)).1
theorem step (h : Boxes w0 W L) (hb : Below W.heap.size W W') : Boxes w0 W' L :=
  ⟨below_then h.below h.below.size hb, fun i p hp => ⟨(h.rows i p hp).1, (hb.block p.1 (h.lt i hp)).trans (h.at_ i hp)⟩, h.apart⟩
theorem new (h : Boxes w0 W L) (hb : Below W.heap.size W W') (hn : W'.heap[W.heap.size]? = some o) : Boxes w0 W' (L ++ [(W.heap.size, o)]) := by
  have h1 := h.step hb
  refine ⟨h1.below, fun i p hp => ?_, fun i j p q hp hq hij => ?_⟩
  · rcases Nat.lt_or_ge i L.length with hi | hi
    · rw [List.getElem?_append_left hi] at hp; exact h1.rows i p hp
    · rw [List.getElem?_append_right hi] at hp
      have : i - L.length = 0 := by
        rcases Nat.eq_zero_or_pos (i - L.length) with h0 | h0
        · exact h0
        · rw [List.getElem?_eq_none (by simp; omega)] at hp; cases hp
      rw [this] at hp
      obtain rfl := Option.some.inj hp
      exact ⟨h.below.size, hn⟩
  · have key : ∀ (k : Nat) r, (L ++ [(W.heap.size, o)])[k]? = some r → (k < L.length ∧ L[k]? = some r) ∨ (k = L.length ∧ r.1 = W.heap.size) := by
      intro k r hr
      rcases Nat.lt_or_ge k L.length with hk | hk
      · rw [List.getElem?_append_left hk] at hr; exact .inl ⟨hk, hr⟩
      · rw [List.getElem?_append_right hk] at hr
        rcases Nat.eq_zero_or_pos (k - L.length) with h0 | h0
        · rw [h0] at hr; obtain rfl := Option.some.inj hr; exact .inr ⟨by omega, rfl⟩
        · rw [List.getElem?_eq_none (by simp; omega)] at hr; cases hr
    rcases key i p hp with ⟨h2, h3⟩ | ⟨h2, h3⟩ <;> rcases key j q hq with ⟨h4, h5⟩ | ⟨h4, h5⟩
    · exact h.apart i j p q h3 h5 hij
    · have := h.lt i h3; omega
    · have := h.lt j h5; omega
    · omega
theorem alloc (h : Boxes w0 W L) (o : Obj) : Boxes w0 (W.alloc o) (L ++ [(W.heap.size, o)]) := h.new (Below.alloc (Below.refl _ _) (Nat.le_refl _) o) (heap_alloc_new _ _)
/-- A block just made, a row stored into it. -/
theorem box {z : Obj} (h : Boxes w0 W L) (hb : Below W.heap.size (W.alloc z) W') (hn : W'.heap[W.heap.size]? = some o) : Boxes w0 W' (L ++ [(W.heap.size, o)]) :=
  h.new ((Below.alloc (Below.refl _ _) (Nat.le_refl _) z).trans hb) hn
/-- A block that is known, written. -/
theorem put (h : Boxes w0 W L) (i : Nat) (hp : L[i]? = some (b, o)) (ho : ∀ k, k ≠ b → W'.heap[k]? = W.heap[k]?) (hb : Below b W W') (hn : W'.heap[b]? = some o') : Boxes w0 W' (L.set i (b, o')) := by
  have hi : i < L.length := (List.getElem?_eq_some_iff.1 hp).1
  have hfst : ∀ (j : Nat) q, (L.set i (b, o'))[j]? = some q → (j = i ∧ q = (b, o')) ∨ (j ≠ i ∧ L[j]? = some q) := by
    intro j q hq
    rw [List.getElem?_set] at hq
    by_cases hji : i = j
    · subst hji; simp [hi] at hq; exact .inl ⟨rfl, hq.symm⟩
    · rw [if_neg hji] at hq; exact .inr ⟨fun e => hji e.symm, hq⟩
  refine ⟨h.below.trans (hb.mono (h.rows i _ hp).1), fun j q hq => ?_, fun j k q r hq hr hjk => ?_⟩
  · rcases hfst j q hq with ⟨rfl, rfl⟩ | ⟨h1, h2⟩
    · exact ⟨(h.rows j _ hp).1, hn⟩
    · exact ⟨(h.rows j q h2).1, (ho q.1 (h.apart j i q _ h2 hp h1)).trans (h.at_ j h2)⟩
  · rcases hfst j q hq with ⟨rfl, rfl⟩ | ⟨h1, h2⟩ <;> rcases hfst k r hr with ⟨rfl, rfl⟩ | ⟨h3, h4⟩
    · omega
    · exact h.apart j k (b, o) r hp h4 hjk
    · exact h.apart j k q (b, o) h2 hp hjk
    · exact h.apart j k q r h2 h4 hjk
theorem drop {n : Nat} (h : Boxes w0 W L) : Boxes w0 W (L.take n) := by
  have key : ∀ (j : Nat) q, (L.take n)[j]? = some q → L[j]? = some q := by
    intro j q hq
    rw [List.getElem?_take] at hq
    split at hq
    · exact hq
    · cases hq
  exact ⟨h.below, fun i p hp => h.rows i p (key i p hp), fun i j p q hp hq => h.apart i j p q (key i p hp) (key j q hq)⟩
end Boxes
section
variable {P : Program} {ops : Array Oper} {rest : List Oper} {o : Oper} {a : Act} {w : World} {Q : Exit → Act → World → Prop}
/-- The operation is this one (a cheap look ahead of a dear step). -/
theorem gate_op {op : Op} (_ : o.op = op) (h : wpList P ops Q (o :: rest) a w) : wpList P ops Q (o :: rest) a w := h
/-- A block made: the world behind it under a name of its own. -/
theorem alloc_arm (hwt : Region.wanted o (yielded ops a.tmps) = true) (ty : TypeId) (ho : o.op = .alloc ty) {z : Obj} (hr : (Instr.alloc ty true (.tuple #[])).run P w = .ok (.pointer (some ⟨w.heap.size, 0, none⟩)) (w.alloc z))
    (h : ∀ w', Below w.heap.size w w' → w'.heap[w.heap.size]? = some z → wpList P ops Q rest (a.put o.dst (.pointer (some ⟨w.heap.size, 0, none⟩))) w') : wpList P ops Q (o :: rest) a w :=
  BigFrame.wpList_want hwt fun K hK => by
    have hrun : (execOp a.eval o).run P w = .ok (.value (.pointer (some ⟨w.heap.size, 0, none⟩))) (w.alloc z) := by
      unfold execOp
      simp only [ho, Sem.run_bind, hr, Result.andThen_ok, Sem.run_pure]
    unfold Oper.wp
    rw [hrun, Oper.upon_value]
    exact hK _ _ (h _ (Below.alloc (Below.refl _ _) (Nat.le_refl _) z) (heap_alloc_new _ _))
end
end Go.Proofs.YteplcnpmdjdlkaaGreatDoor
namespace Go.Proofs.YteplcnpmdjdlkaaGreatDoor
open Go.RowKit
set_option linter.unusedVariables false
set_option linter.unusedSimpArgs false
theorem never_any (x y : ByteArray) (w : World) : Calls Tryz.prog 90 #[.string x, .string y] w fun e w' => e = .returned (.bool (nev x y)) ∧ Below w.heap.size w w' := by
  go_enter Tryz.func90, Tryz.ntmps90
  go_wp2
  go_ret
  exact ⟨rfl, Below.refl _ _⟩
theorem same_v (a : VT) : SameOk nev 90 (fun _ => True) a := by
  have hnum : ∀ (x y : ByteArray) (W : World), True → x.size ≤ 9223372036854775807 → y.size ≤ 9223372036854775807 → Calls Tryz.prog 90 #[.string x, .string y] W fun e w' => e = .returned (.bool (nev x y)) ∧ Below W.heap.size W w' := fun x y W _ _ _ => never_any x y W
  have key : ∀ a : VT, (∀ i, i < a.ln → SameOk nev 90 (fun _ => True) (a.lt i)) → (∀ i, i < a.mn → SameOk nev 90 (fun _ => True) (a.mt i)) → SameOk nev 90 (fun _ => True) a := by
    intro a ihl ihm b w hw ha hb
    cases h : (a.k == b.k && a.n == b.n && a.ln == b.ln && a.mn == b.mn)
    · exact same_no nev 90 Tryz.f90 Tryz.func90 (by kernel_rfl) (by kernel_rfl) (fun _ => True) (fun _ _ _ _ => trivial) hnum a b w h
    cases hs : (a.s.toList == b.s.toList)
    · exact same_txt nev 90 Tryz.f90 Tryz.func90 (by kernel_rfl) (by kernel_rfl) (fun _ => True) (fun _ _ _ _ => trivial) hnum a b w hw ha hb h hs (by simp [nev])
    · exact same_go nev 90 Tryz.f90 Tryz.func90 (by kernel_rfl) (by kernel_rfl) (fun _ => True) (fun _ _ _ _ => trivial) hnum a b w hw ha hb ihl ihm h hs
  induction a with
  | no => exact key .no (fun i hi => absurd hi (Nat.not_lt_zero i)) (fun i hi => absurd hi (Nat.not_lt_zero i))
  | mk k n s lA lb lo ln lc lt mA mb mo mn mc ky mt ihl ihm => exact key _ (fun i _ => ihl i) (fun i _ => ihm i)
set_option maxHeartbeats 1000000 in
theorem vSame_any (a b : VT) (w : World) (ha : VT.In w.heap.size w a) (hb : VT.In w.heap.size w b) : Calls Tryz.prog 67 #[.agg a.c, .agg b.c] w fun e w' => e = .returned (.bool (sameV a b)) ∧ Below w.heap.size w w' := by
  have H := Lib.hid (fun (W : World) (hW : Below w.heap.size w W) => same_v a b W trivial ((ha.move hW).up hW.size) ((hb.move hW).up hW.size))
  have hS0 : Sees w ((w.alloc (Obj.cells a.c 34)).alloc (Obj.cells b.c 34)) [(w.heap.size, Obj.cells a.c 34), (w.heap.size + 1, Obj.cells b.c 34)] := by
    have := ((Sees.start w).alloc (Obj.cells a.c 34)).alloc (Obj.cells b.c 34)
    simpa using this
  clear ha hb
  go_enter Tryz.func67, Tryz.ntmps67
  go_wp2_with (first | go_skip | (refine wpList_load_row' rfl 34 (.tmp 2) rfl _ rfl 34 _ (0, 0) _ hS0.g0 Tryz.underlying34 rfl (VT.val_info _) ?_) | (refine wpList_load_row' rfl 34 (.tmp 3) rfl _ rfl 34 _ (0, 0) _ hS0.g1 Tryz.underlying34 rfl (VT.val_info _) ?_) | (go_at_call 89; with_reducible (refine (H.out _ hS0.below).mono ?_); rintro e w1 ⟨rfl, hb1⟩))
  go_ret
  exact ⟨ret_bool rfl, (hS0.step hb1).below⟩
end Go.Proofs.YteplcnpmdjdlkaaGreatDoor
namespace Go.Proofs.YteplcnpmdjdlkaaGreatDoor
open Go.RowKit
set_option linter.unusedVariables false
set_option linter.unusedSimpArgs false
set_option maxHeartbeats 1000000 in
theorem zero_any (a : VT) (w : World) (ha : VT.In w.heap.size w a) : Calls Tryz.prog 51 #[.agg a.c] w fun e w' => e = .returned (.bool (sameV a .no)) ∧ Below w.heap.size w w' := by
  have H := Lib.hid (fun (W : World) (hW : Below w.heap.size w W) => vSame_any a .no W ((ha.move hW).up hW.size) (VT.no_in _ _))
  have hS0 : Sees w (w.alloc (Obj.cells a.c 34)) [(w.heap.size, Obj.cells a.c 34)] := (Sees.start w).alloc _
  clear ha
  go_enter Tryz.func51, Tryz.ntmps51
  go_wp2_with (first | go_skip | (refine wpList_load_row' rfl 34 (.tmp 1) rfl _ rfl 34 _ (0, 0) _ hS0.g0 Tryz.underlying34 rfl (VT.val_info _) ?_) | (go_at_call 67; refine (H.out _ hS0.below).mono ?_; rintro e w1 ⟨rfl, hb1⟩))
  go_ret
  exact ⟨ret_bool rfl, (hS0.step hb1).below⟩
end Go.Proofs.YteplcnpmdjdlkaaGreatDoor
namespace Go.Proofs.YteplcnpmdjdlkaaGreatDoor
open Go.RowKit
set_option linter.unusedVariables false
set_option linter.unusedSimpArgs false
/-- An operation over a tree. -/
def opOf (R N T : Int) (seen : List Int) (K OR ON : Int) (key : ByteArray) (AR AN M : Int) (t : VT) : OpV := { R, N, T, seen, K, OR, ON, key, AR, AN, M, VK := t.k, VN := t.n, VS := t.s, VL := t.L, VM := t.M }
theorem opOf_vc (R N T : Int) (seen : List Int) (K OR ON : Int) (key : ByteArray) (AR AN M : Int) (t : VT) : (opOf R N T seen K OR ON key AR AN M t).vc = t.c := rfl
theorem good_v (o : OpV) (t : VT) (w : World) (hw : Vars w) (ho : o.seen.length = 64) (hv : o.vc = t.c) (ht : VT.In w.heap.size w t) (hk : o.key.size ≤ 9223372036854775807) :
    Calls Tryz.prog 22 #[opv o] w fun e w' => e = .returned (.bool (opB o (goodT t) (sameV t .no) (validS o.key).2)) ∧ Below w.heap.size w w' := by
  refine oGood_any o _ _ _ w ho ?_ ?_ ?_
  · intro W hB
    rw [hv]
    exact goodT_any t W (hw.step hB) ((ht.move hB).up hB.size)
  · intro W hB
    rw [hv]
    exact zero_any t W ((ht.move hB).up hB.size)
  · exact fun W hB => (valid_any o.key W hk).mono fun e w' ⟨he, hb⟩ => ⟨⟨_, he⟩, hb⟩
def Z0 : List Int := List.replicate 64 0
def zeroO : OpV := opOf 0 0 0 Z0 0 0 0 ⟨#[]⟩ 0 0 0 .no
theorem op_one {o : OpV} (hL : o.VL.oneCell' = true) (hM : o.VM.oneCell' = true) : o.c.all (·.oneCell') = true := by
  have hi : ∀ k n, (Value.int k n).oneCell' = true := fun _ _ => rfl
  have hs : ∀ s, (Value.string s).oneCell' = true := fun _ => rfl
  simp [OpV.c, OpV.l, OpV.v, hL, hM, hi, hs]
theorem op_alloc (W : World) : (Instr.alloc 36 true (.tuple #[])).run Tryz.prog W = .ok (.pointer (some ⟨W.heap.size, 0, none⟩)) (W.alloc (Obj.cells zeroO.c 36)) := by kernel_rfl
theorem zero_cells : Tryz.zeroCells36 = zeroO.c := by kernel_rfl
end Go.Proofs.YteplcnpmdjdlkaaGreatDoor
namespace Go.Proofs.YteplcnpmdjdlkaaGreatDoor
open Go.RowKit
theorem val_alloc (W : World) : (Instr.alloc 34 true (.tuple #[])).run Tryz.prog W = .ok (.pointer (some ⟨W.heap.size, 0, none⟩)) (W.alloc (Obj.cells VT.no.c 34)) := by kernel_rfl
theorem build_no (W : World) : (Instr.build 34 #[]).run Tryz.prog W = .ok (.agg VT.no.c) W := by kernel_rfl
theorem build_k (k : Int) (W : World) : (Instr.build 34 #[(0, .int .i64 k)]).run Tryz.prog W = .ok (.agg (VT.leaf k 0 ⟨#[]⟩).c) W := by kernel_rfl
theorem build_ks (k : Int) (s : ByteArray) (W : World) : (Instr.build 34 #[(0, .int .i64 k), (2, .string s)]).run Tryz.prog W = .ok (.agg (VT.leaf k 0 s).c) W := by kernel_rfl
theorem build_kn (k n : Int) (W : World) : (Instr.build 34 #[(0, .int .i64 k), (1, .int .i64 n)]).run Tryz.prog W = .ok (.agg (VT.leaf k n ⟨#[]⟩).c) W := by kernel_rfl
end Go.Proofs.YteplcnpmdjdlkaaGreatDoor
namespace Go.Proofs.YteplcnpmdjdlkaaGreatDoor
open Go.RowKit
set_option linter.unusedVariables false
set_option linter.unusedSimpArgs false
set_option linter.unusedSectionVars false
section
variable (o : OpV) (zb vb : Bool) (w : World) (ho : o.seen.length = 64)
  (HZ : Hid (∀ W, Below w.heap.size w W → Calls Tryz.prog 29 #[.agg o.vc] W fun e w' => e = .returned (.bool zb) ∧ Below W.heap.size W w'))
  (HV : Hid (∀ W, Below w.heap.size w W → Calls Tryz.prog 30 #[.agg o.vc] W fun e w' => e = .returned (.bool vb) ∧ Below W.heap.size W w'))
include ho HZ HV
set_option maxRecDepth 100000 in
set_option maxHeartbeats 16000000 in
theorem rop_kind2 (sb : Bool) (HS : ∀ W, Calls Tryz.prog 20 #[.string o.key] W fun e w' => e = .returned (.bool sb) ∧ Below W.heap.size W w') (hg : goodB o.R o.N = true) (ht : 1 ≤ o.T) (hk : o.K = 2) (hm : 0 ≤ o.M) (hm4 : o.M ≤ 2) : Calls Tryz.prog 14 #[opv o] w fun e w' => e = .returned (.bool (ropB o sb zb vb)) ∧ Below w.heap.size w w' := by
  have hh : Hid (ropB o sb zb vb = (allTo (inB o) 64 && (vat o.seen (o.R.toNat - 1) == o.N - 1) && (objB o || hasB o.seen o.OR o.ON) && tailB o sb zb vb)) := by
    have : headB o = true := by unfold headB; simp [hg]; omega
    unfold Hid ropB; rw [this]; rfl
  obtain ⟨⟨hR1, hR2⟩, hN1, hN2⟩ := goodB_iff.1 hg
  have hS : Sees w (w.alloc (Obj.cells o.c 36)) [(w.heap.size, Obj.cells o.c 36)] := (Sees.start w).alloc _
  have a0 := OpV.g0 (o := o)
  have a1 := OpV.g1 (o := o)
  have a2 := OpV.g2 (o := o)
  have a70 := OpV.g70 ho
  have a73 := OpV.g73 ho
  have a67 : o.c[67]? = some (.int .i64 2) := (OpV.g67 ho).trans (congrArg (fun x => some (Value.int .i64 x)) hk)
  have HK := Lib.hid hk
  clear hk
  have ht2 : decide (o.T < 1) = false := by simp; omega
  have hm2 : decide (o.M < 0) = false := by simp; omega
  have hm3 : decide (2 < o.M) = false := by simp; omega
  have HT := Lib.hid HS
  clear HS
  go_enter Tryz.func14, Tryz.ntmps14
  go_wp2_with (first | go_skip | ((with_reducible refine gate_op (op := .load 27 (.tmp 4)) rfl ?_); refine load_part rfl 27 (.tmp 4) rfl _ 0 rfl _ _ (0, 0) _ _ hS.g0 OpV.pId Tryz.underlying27 rfl (id_info _ _) ?_) | (go_at_call 27; with_reducible (refine (r20Good_is hg _).mono ?_); rintro e wn ⟨rfl, hbn⟩; have hS1 := hS.step hbn; clear hS hbn; have hS := hS1; clear hS1; (try clear c0 c1 c2 c67 c70 c73 c74); have c0 := (cell_of_row _ _ _ _ _ _ hS.g0).trans a0; have c1 := (cell_of_row _ _ _ _ _ _ hS.g0).trans a1; have c2 := (cell_of_row _ _ _ _ _ _ hS.g0).trans (OpV.g2 (o := o)); have c67 := (cell_of_row _ _ _ _ _ _ hS.g0).trans a67; have c70 := (cell_of_row _ _ _ _ _ _ hS.g0).trans (OpV.g70 ho); have c73 := (cell_of_row _ _ _ _ _ _ hS.g0).trans (OpV.g73 ho); have c74 := (cell_of_row _ _ _ _ _ _ hS.g0).trans (OpV.g74 ho)))
  go_loop [3] (fun iv => ∃ k : Nat, 1 ≤ k ∧ k ≤ 65 ∧ iv = .int .i64 (k : Int) ∧ Hid (allTo (inB o) (k - 1) = true)) (fun iv => 65 - (intOf iv).toNat)
  case atStart => exact ⟨1, by omega, by omega, rfl, rfl⟩
  case round =>
    obtain ⟨k, hk1, hk, rfl, H⟩ := hrel
    by_cases hlt : k ≤ 64
    · have ck : wn.cell? ⟨w.heap.size, 3 + (k - 1), none⟩ = some (.int .i64 (vat o.seen (k - 1))) := (cell_of_row _ _ _ _ _ _ hS.g0).trans (OpV.gs ho (k - 1) (by omega))
      have hin : Hid (inB o (k - 1) = (decide (0 ≤ vat o.seen (k - 1)) && decide (vat o.seen (k - 1) ≤ 60))) := rfl
      have HN := Lib.hid (fun h => allTo_no (p := inB o) (k := k - 1) (n := 64) (by omega) h)
      have hy : inB o (k - 1) = true → allTo (inB o) (k + 1 - 1) = true := fun h => by
        rw [show k + 1 - 1 = (k - 1) + 1 by omega, allTo, H.out, h]; rfl
      have HY := Lib.hid hy
      clear hy
      generalize vat o.seen (k - 1) = x at *
      by_cases h0 : x < 0
      · have hf : Hid (ropB o sb zb vb = false) := by unfold Hid; rw [hh.out, HN.out (by rw [hin.out, decide_eq_false (show ¬ 0 ≤ x by omega)]; rfl)]; rfl
        clear hin HN HY
        go_wp2_with go_skip
        go_ret
        exact ⟨ret_bool hf.out.symm, hS.below⟩
      by_cases h6 : 60 < x
      · have hf : Hid (ropB o sb zb vb = false) := by unfold Hid; rw [hh.out, HN.out (by rw [hin.out, decide_eq_false (show ¬ x ≤ 60 by omega)]; simp)]; rfl
        have h0b : decide (x < 0) = false := by simp; omega
        clear hin HN HY
        go_wp2_with go_skip
        go_ret
        exact ⟨ret_bool hf.out.symm, hS.below⟩
      · have hs : Hid (allTo (inB o) (k + 1 - 1) = true) := HY.out (by rw [hin.out]; simp; omega)
        have h0b : decide (x < 0) = false := by simp; omega
        have h6b : decide (60 < x) = false := by simp; omega
        clear hin HN HY
        go_wp2_with go_skip
        go_round
        case rel => exact ⟨k + 1, by omega, by omega, by go_num, hs⟩
        case measure => simp [intOf]; omega
    · obtain rfl : k = 65 := by omega
      have hh : Hid (ropB o sb zb vb = ((vat o.seen (o.R.toNat - 1) == o.N - 1) && (objB o || hasB o.seen o.OR o.ON) && tailB o sb zb vb)) := by
        have : allTo (inB o) 64 = true := H.out
        unfold Hid; rw [hh.out, this]; rfl
      clear H
      have cR : wn.cell? ⟨w.heap.size, 3 + (o.R.toNat - 1), none⟩ = some (.int .i64 (vat o.seen (o.R.toNat - 1))) := (cell_of_row _ _ _ _ _ _ hS.g0).trans (OpV.gs ho (o.R.toNat - 1) (by omega))
      go_wp2_with go_skip
      generalize vat o.seen (o.R.toNat - 1) = x at *
      (try clear c0 c1 c2 c67 c70 c73 c74)
      have c0 := (cell_of_row _ _ _ _ _ _ hS.g0).trans a0; have c1 := (cell_of_row _ _ _ _ _ _ hS.g0).trans a1; have c2 := (cell_of_row _ _ _ _ _ _ hS.g0).trans (OpV.g2 (o := o)); have c67 := (cell_of_row _ _ _ _ _ _ hS.g0).trans a67; have c70 := (cell_of_row _ _ _ _ _ _ hS.g0).trans (OpV.g70 ho); have c73 := (cell_of_row _ _ _ _ _ _ hS.g0).trans (OpV.g73 ho); have c74 := (cell_of_row _ _ _ _ _ _ hS.g0).trans (OpV.g74 ho)
      have hwR : IntKind.i64.wrap (o.R - 1) = o.R - 1 := IntWalk.i64_in _ (by omega)
      have hwN : IntKind.i64.wrap (o.N - 1) = o.N - 1 := IntWalk.i64_in _ (by omega)
      have xR := fun W => run_index_arr (P := Tryz.prog) 29 2 Tryz.underlying29 (by kernel_rfl) (b := w.heap.size) (i0 := 3) o.R hR1 hR2 W
      have hO := fun W => r20Has_any o.seen o.OR o.ON W ho
      have HO := Lib.hid hO
      cases hx : (x == o.N - 1)
      case' false =>
        have hxb : (x != o.N - 1) = true := congrArg (fun b => !b) hx
        have hf : Hid (ropB o sb zb vb = false) := by unfold Hid; rw [hh.out, hx]; rfl
      case' true =>
        have hxb : (x != o.N - 1) = false := congrArg (fun b => !b) hx
        have hh : Hid (ropB o sb zb vb = ((objB o || hasB o.seen o.OR o.ON) && tailB o sb zb vb)) := by unfold Hid; rw [hh.out, hx]; rfl
        clear hx
        cases hob : objB o
        case' true =>
          have hob1 : (o.OR == 0) = true := by unfold objB at hob; simp at hob; simp [hob]
          have hob2 : (o.ON == 0) = true := by unfold objB at hob; simp at hob; simp [hob]
          have hT : Hid (ropB o sb zb vb = tailB o sb zb vb) := by unfold Hid; rw [hh.out, hob]; rfl
          have HB := Lib.hid hob
          clear hob hO
        case' false =>
          have HB := Lib.hid hob
          cases hob1 : (o.OR == 0)
          case' true => have hob2 : (o.ON == 0) = false := by have := HB.out; unfold objB at this; rw [hob1] at this; simpa using this
          all_goals (
            cases hhas : hasB o.seen o.OR o.ON
            case' false => have hf : Hid (ropB o sb zb vb = false) := by unfold Hid; rw [hh.out, HB.out, hhas]; rfl
            case' true => have hT : Hid (ropB o sb zb vb = tailB o sb zb vb) := by unfold Hid; rw [hh.out, HB.out, hhas]; rfl
            all_goals (
              rw [hhas] at hO
              have HO := Lib.hid hO
              clear hO hhas))
      all_goals (
        have k0 := cell_regrown c0
        have k1 := cell_regrown c1
        have kR := cell_regrown cR
        have hOq := Lib.hid (cells_regrown (w := wn) (b := w.heap.size) (i := 68) (cs := #[.int .i64 o.OR, .int .i64 o.ON]) (fun j v hv => (cell_of_row _ _ _ _ _ _ hS.g0).trans (OpV.pObj ho j v hv)))
        have hSq := Lib.hid (cells_regrown (w := wn) (b := w.heap.size) (i := 3) (cs := vcells o.seen) (fun j v hv => (cell_of_row _ _ _ _ _ _ hS.g0).trans (OpV.pSeen ho j v hv)))
        have cH := grown_calls (w := wn) (fun W _ => HO.out W)
        refine wp_region_quiet_below (by kernel_rfl) (by kernel_rfl) ?_
        repeat (first | go_big_quiet_skip | (refine BigFrame.wpQuiet_want rfl (fun K hK => ?_); refine quiet_index 29 (.tmp 55) (.tmp 54) rfl _ (fun W _ => xR W) ?_; refine hK _ ?_; clear hK K) | (refine BigFrame.wpQuiet_want rfl (fun K hK => ?_); refine quiet_load_cells 27 (.tmp 64) rfl _ _ rfl _ _ hOq.out Tryz.underlying27 rfl (id_info _ _) ?_; refine hK _ ?_; clear hK K) | (refine BigFrame.wpQuiet_want rfl (fun K hK => ?_); refine quiet_load_cells 27 (.tmp 71) rfl _ _ rfl _ _ hOq.out Tryz.underlying27 rfl (id_info _ _) ?_; refine hK _ ?_; clear hK K) | (refine BigFrame.wpQuiet_want rfl (fun K hK => ?_); refine quiet_load_cells 29 (.tmp 69) rfl _ _ rfl _ _ hSq.out Tryz.underlying29 rfl (seen_info _ ho) ?_; refine hK _ ?_; clear hK K) | (quiet_step (with_reducible exact cH _ _)))
        refine wpQuiet_nil ?_; rintro wq ⟨⟨dq, osq⟩, rfl⟩; have hbq := below_regrown wn dq osq; generalize Go.Sort.grow (redrawn wn dq) osq = wq at *
        have hS1 := hS.step hbq
        clear hS hbq k0 k1 kR hOq hSq cH c0 c1 c2 c67 c70 c73 c74 cR
        have hS := hS1
        clear hS1
        have c0 := (cell_of_row _ _ _ _ _ _ hS.g0).trans a0; have c1 := (cell_of_row _ _ _ _ _ _ hS.g0).trans a1; have c2 := (cell_of_row _ _ _ _ _ _ hS.g0).trans (OpV.g2 (o := o)); have c67 := (cell_of_row _ _ _ _ _ _ hS.g0).trans a67; have c70 := (cell_of_row _ _ _ _ _ _ hS.g0).trans (OpV.g70 ho); have c73 := (cell_of_row _ _ _ _ _ _ hS.g0).trans (OpV.g73 ho); have c74 := (cell_of_row _ _ _ _ _ _ hS.g0).trans (OpV.g74 ho)
        skip)
      all_goals try (
        have hgo := hT.out
        clear hgo
        cases sb
        case' false =>
          have hf := Lib.hid (hT.out.trans (show _ = false by unfold tailB; simp [HK.out, atB]))
        case' true =>
          cases hA1 : (o.AR == 0)
          case' false =>
            have hf := Lib.hid (hT.out.trans (show _ = false by unfold tailB; simp [HK.out, atB, hA1]))
          case' true =>
            cases hA2 : (o.AN == 0)
            case' false =>
              have hf := Lib.hid (hT.out.trans (show _ = false by unfold tailB; simp [HK.out, atB, hA1, hA2]))
            case' true =>
              cases hM : (o.M == 0)
              case' false =>
                have hf := Lib.hid (hT.out.trans (show _ = false by unfold tailB; simp [HK.out, atB, hA1, hA2, hM]))
              case' true =>
                have hf := Lib.hid (hT.out.trans (show _ = zb by unfold tailB; simp [HK.out, atB, hA1, hA2, hM])))
      all_goals (
        go_wp2_with (first | go_skip | ((with_reducible refine gate_op (op := .load 27 (.tmp 85)) rfl ?_); refine load_part rfl 27 (.tmp 85) rfl _ 71 rfl _ _ (0, 0) _ _ hS.g0 (OpV.pAt ho) Tryz.underlying27 rfl (id_info _ _) ?_) | ((with_reducible refine gate_op (op := .load 27 (.tmp 94)) rfl ?_); refine load_part rfl 27 (.tmp 94) rfl _ 68 rfl _ _ (0, 0) _ _ hS.g0 (OpV.pObj ho) Tryz.underlying27 rfl (id_info _ _) ?_) | ((with_reducible refine gate_op (op := .load 27 (.tmp 100)) rfl ?_); refine load_part rfl 27 (.tmp 100) rfl _ 71 rfl _ _ (0, 0) _ _ hS.g0 (OpV.pAt ho) Tryz.underlying27 rfl (id_info _ _) ?_) | ((with_reducible refine gate_op (op := .load 27 (.tmp 111)) rfl ?_); refine load_part rfl 27 (.tmp 111) rfl _ 71 rfl _ _ (0, 0) _ _ hS.g0 (OpV.pAt ho) Tryz.underlying27 rfl (id_info _ _) ?_) | ((with_reducible refine gate_op (op := .load 27 (.tmp 118)) rfl ?_); refine load_part rfl 27 (.tmp 118) rfl _ 71 rfl _ _ (0, 0) _ _ hS.g0 (OpV.pAt ho) Tryz.underlying27 rfl (id_info _ _) ?_) | ((with_reducible refine gate_op (op := .load 29 (.tmp 116)) rfl ?_); refine load_part rfl 29 (.tmp 116) rfl _ 3 rfl _ _ (0, 0) _ _ hS.g0 (OpV.pSeen ho) Tryz.underlying29 rfl (seen_info _ ho) ?_) | ((with_reducible refine gate_op (op := .load 34 (.tmp 136)) rfl ?_); refine load_part rfl 34 (.tmp 136) rfl _ 74 rfl _ _ (0, 0) _ _ hS.g0 (OpV.pV ho) Tryz.underlying34 rfl (val_info _) ?_) | ((with_reducible refine gate_op (op := .load 34 (.tmp 143)) rfl ?_); refine load_part rfl 34 (.tmp 143) rfl _ 74 rfl _ _ (0, 0) _ _ hS.g0 (OpV.pV ho) Tryz.underlying34 rfl (val_info _) ?_) | ((with_reducible refine gate_op (op := .load 34 (.tmp 146)) rfl ?_); refine load_part rfl 34 (.tmp 146) rfl _ 74 rfl _ _ (0, 0) _ _ hS.g0 (OpV.pV ho) Tryz.underlying34 rfl (val_info _) ?_) | (go_at_call 20; with_reducible (refine (HT.out _).mono ?_); rintro e wn ⟨rfl, hbn⟩; have hS1 := hS.step hbn; clear hS hbn; have hS := hS1; clear hS1; (try clear c0 c1 c2 c67 c70 c73 c74); have c0 := (cell_of_row _ _ _ _ _ _ hS.g0).trans a0; have c1 := (cell_of_row _ _ _ _ _ _ hS.g0).trans a1; have c2 := (cell_of_row _ _ _ _ _ _ hS.g0).trans (OpV.g2 (o := o)); have c67 := (cell_of_row _ _ _ _ _ _ hS.g0).trans a67; have c70 := (cell_of_row _ _ _ _ _ _ hS.g0).trans (OpV.g70 ho); have c73 := (cell_of_row _ _ _ _ _ _ hS.g0).trans (OpV.g73 ho); have c74 := (cell_of_row _ _ _ _ _ _ hS.g0).trans (OpV.g74 ho)) | (go_at_call 28; with_reducible (refine (HA.out _).mono ?_); rintro e wn ⟨rfl, hbn⟩; have hS1 := hS.step hbn; clear hS hbn; have hS := hS1; clear hS1; (try clear c0 c1 c2 c67 c70 c73 c74); have c0 := (cell_of_row _ _ _ _ _ _ hS.g0).trans a0; have c1 := (cell_of_row _ _ _ _ _ _ hS.g0).trans a1; have c2 := (cell_of_row _ _ _ _ _ _ hS.g0).trans (OpV.g2 (o := o)); have c67 := (cell_of_row _ _ _ _ _ _ hS.g0).trans a67; have c70 := (cell_of_row _ _ _ _ _ _ hS.g0).trans (OpV.g70 ho); have c73 := (cell_of_row _ _ _ _ _ _ hS.g0).trans (OpV.g73 ho); have c74 := (cell_of_row _ _ _ _ _ _ hS.g0).trans (OpV.g74 ho)) | (go_at_call 29; with_reducible (refine (HZ.out _ hS.below).mono ?_); rintro e wn ⟨rfl, hbn⟩; have hS1 := hS.step hbn; clear hS hbn; have hS := hS1; clear hS1; (try clear c0 c1 c2 c67 c70 c73 c74); have c0 := (cell_of_row _ _ _ _ _ _ hS.g0).trans a0; have c1 := (cell_of_row _ _ _ _ _ _ hS.g0).trans a1; have c2 := (cell_of_row _ _ _ _ _ _ hS.g0).trans (OpV.g2 (o := o)); have c67 := (cell_of_row _ _ _ _ _ _ hS.g0).trans a67; have c70 := (cell_of_row _ _ _ _ _ _ hS.g0).trans (OpV.g70 ho); have c73 := (cell_of_row _ _ _ _ _ _ hS.g0).trans (OpV.g73 ho); have c74 := (cell_of_row _ _ _ _ _ _ hS.g0).trans (OpV.g74 ho)) | (go_at_call 30; with_reducible (refine (HV.out _ hS.below).mono ?_); rintro e wn ⟨rfl, hbn⟩; have hS1 := hS.step hbn; clear hS hbn; have hS := hS1; clear hS1; (try clear c0 c1 c2 c67 c70 c73 c74); have c0 := (cell_of_row _ _ _ _ _ _ hS.g0).trans a0; have c1 := (cell_of_row _ _ _ _ _ _ hS.g0).trans a1; have c2 := (cell_of_row _ _ _ _ _ _ hS.g0).trans (OpV.g2 (o := o)); have c67 := (cell_of_row _ _ _ _ _ _ hS.g0).trans a67; have c70 := (cell_of_row _ _ _ _ _ _ hS.g0).trans (OpV.g70 ho); have c73 := (cell_of_row _ _ _ _ _ _ hS.g0).trans (OpV.g73 ho); have c74 := (cell_of_row _ _ _ _ _ _ hS.g0).trans (OpV.g74 ho)))
        go_ret
        exact ⟨ret_bool hf.out.symm, hS.below⟩)
end
end Go.Proofs.YteplcnpmdjdlkaaGreatDoor
