/-
  What a walk knows of blocks that the call made, each apart from the others: 'Boxes'. No condition.
  value.Same and ops.zero tell what is written here, for all trees. No condition.
  ops.zero tells what is written here, for all trees. No condition.
  An operation over a tree; ops.Good at it. Condition: the library's variables as it lays them.
  Where a tree's blocks lie; a tree stays where its blocks do; a tree whose nodes lie at other addresses. No condition.
  slices.Clone at values and pairs: a row of the call's own with the same cells. Condition: no longer than a machine's memory.
  A tree whose rows are whole blocks, each of its own: what may be written over. No condition.
  A value's block made; values built. No condition.
-/
import Derived.Test.YtffcpmohanhihaaGreatDoorJ5
import Derived.Test.YtffcpmohanhihaaGreatDoorSameJ
import Derived.Test.YtffcpmohanhihaaGreatDoorOpGoodJ
import Derived.Test.YtffcpmohanhihaaGreatDoorJ12
import Derived.Laws.AppendOwn
import Derived.Lib.LazyBuf
import Derived.Test.YtffcpmohanhihaaGreatDoorJ11
namespace Go.Proofs.YtffcpmohanhihaaGreatDoor
open Go.RowKit
set_option linter.unusedVariables false
set_option linter.unusedSimpArgs false
structure Boxes (w0 W : World) (L : List (Nat × Obj)) : Prop where
  below : Below w0.heap.size w0 W
  rows : ∀ (i : Nat) p, L[i]? = some p → w0.heap.size ≤ p.1 ∧ W.heap[p.1]? = some p.2
  apart : ∀ (i j : Nat) p q, L[i]? = some p → L[j]? = some q → i ≠ j → p.1 ≠ q.1
namespace Boxes
variable {w0 W W' : World} {L : List (Nat × Obj)} {b : Nat} {o o' : Obj}
theorem start (w : World) : Boxes w w [] := ⟨Below.refl _ _, fun i p hp => by simp at hp, fun i j p q hp => by simp at hp⟩
theorem at_ (h : Boxes w0 W L) (i : Nat) {p : Nat × Obj} (hp : L[i]? = some p) : W.heap[p.1]? = some p.2 := (h.rows i p hp).2
theorem lt (h : Boxes w0 W L) (i : Nat) {p : Nat × Obj} (hp : L[i]? = some p) : p.1 < W.heap.size := (Array.getElem?_eq_some_iff.1 (h.at_ i hp)).1
theorem step (h : Boxes w0 W L) (hb : Below W.heap.size W W') : Boxes w0 W' L :=
  ⟨below_then h.below h.below.size hb, fun i p hp => ⟨(h.rows i p hp).1, (hb.block p.1 (h.lt i hp)).trans (h.at_ i hp)⟩, h.apart⟩
theorem new (h : Boxes w0 W L) (hb : Below W.heap.size W W') (hn : W'.heap[W.heap.size]? = some o) : Boxes w0 W' (L ++ [(W.heap.size, o)]) := by
  have h1 := h.step hb
  refine ⟨h1.below, fun i p hp => ?_, fun i j p q hp hq hij => ?_⟩
  · rcases Nat.lt_or_ge i L.length with hi | hi
    · rw [List.getElem?_append_left hi] at hp; exact h1.rows i p hp
    · rw [List.getElem?_append_right hi] at hp
      have : i - L.length = 0 := by
        rcases Nat.eq_zero_or_pos (i - L.length) with h0 | h0
        · exact h0
        · rw [List.getElem?_eq_none (by simp; omega)] at hp; cases hp
      rw [this] at hp
      obtain rfl := Option.some.inj hp
      exact ⟨h.below.size, hn⟩
  · have key : ∀ (k : Nat) r, (L ++ [(W.heap.size, o)])[k]? = some r → (k < L.length ∧ L[k]? = some r) ∨ (k = L.length ∧ r.1 = W.heap.size) := by
      intro k r hr
      rcases Nat.lt_or_ge k L.length with hk | hk
      · rw [List.getElem?_append_left hk] at hr; exact .inl ⟨hk, hr⟩
      · rw [List.getElem?_append_right hk] at hr
        rcases Nat.eq_zero_or_pos (k - L.length) with h0 | h0
        · rw [h0] at hr; obtain rfl := Option.some.inj hr; exact .inr ⟨by omega, rfl⟩
        · rw [List.getElem?_eq_none (by simp; omega)] at hr; cases hr
    rcases key i p hp with ⟨h2, h3⟩ | ⟨h2, h3⟩ <;> rcases key j q hq with ⟨h4, h5⟩ | ⟨h4, h5⟩
    · exact h.apart i j p q h3 h5 hij
    · have := h.lt i h3; omega
    · have := h.lt j h5; omega
    · omega
theorem alloc (h : Boxes w0 W L) (o : Obj) : Boxes w0 (W.alloc o) (L ++ [(W.heap.size, o)]) := h.new (Below.alloc (Below.refl _ _) (Nat.le_refl _) o) (heap_alloc_new _ _)
/-- A block just made, a row stored into it. -/
theorem box {z : Obj} (h : Boxes w0 W L) (hb : Below W.heap.size (W.alloc z) W') (hn : W'.heap[W.heap.size]? = some o) : Boxes w0 W' (L ++ [(W.heap.size, o)]) :=
  h.new ((Below.alloc (Below.refl _ _) (Nat.le_refl _) z).trans hb) hn
/-- A block that is known, written. -/
theorem put (h : Boxes w0 W L) (i : Nat) (hp : L[i]? = some (b, o)) (ho : ∀ k, k ≠ b → W'.heap[k]? = W.heap[k]?) (hb : Below b W W') (hn : W'.heap[b]? = some o') : Boxes w0 W' (L.set i (b, o')) := by
  have hi : i < L.length := (List.getElem?_eq_some_iff.1 hp).1
  have hfst : ∀ (j : Nat) q, (L.set i (b, o'))[j]? = some q → (j = i ∧ q = (b, o')) ∨ (j ≠ i ∧ L[j]? = some q) := by
    intro j q hq
    rw [List.getElem?_set] at hq
    by_cases hji : i = j
    · subst hji; simp [hi] at hq; exact .inl ⟨rfl, hq.symm⟩
    · rw [if_neg hji] at hq; exact .inr ⟨fun e => hji e.symm, hq⟩
  refine ⟨h.below.trans (hb.mono (h.rows i _ hp).1), fun j q hq => ?_, fun j k q r hq hr hjk => ?_⟩
  · rcases hfst j q hq with ⟨rfl, rfl⟩ | ⟨h1, h2⟩
    · exact ⟨(h.rows j _ hp).1, hn⟩
    · exact ⟨(h.rows j q h2).1, (ho q.1 (h.apart j i q _ h2 hp h1)).trans (h.at_ j h2)⟩
  · rcases hfst j q hq with ⟨rfl, rfl⟩ | ⟨h1, h2⟩ <;> rcases hfst k r hr with ⟨rfl, rfl⟩ | ⟨h3, h4⟩
    · omega
    · exact h.apart j k (b, o) r hp h4 hjk
    · exact h.apart j k q (b, o) h2 hp hjk
    · exact h.apart j k q r h2 h4 hjk
theorem drop {n : Nat} (h : Boxes w0 W L) : Boxes w0 W (L.take n) := by
  have key : ∀ (j : Nat) q, (L.take n)[j]? = some q → L[j]? = some q := by
    intro j q hq
    rw [List.getElem?_take] at hq
    split at hq
    · exact hq
    · cases hq
  exact ⟨h.below, fun i p hp => h.rows i p (key i p hp), fun i j p q hp hq => h.apart i j p q (key i p hp) (key j q hq)⟩
end Boxes
section
variable {P : Program} {ops : Array Oper} {rest : List Oper} {o : Oper} {a : Act} {w : World} {Q : Exit → Act → World → Prop}
/-- The operation is this one (a cheap look ahead of a dear step). -/
theorem gate_op {op : Op} (_ : o.op = op) (h : wpList P ops Q (o :: rest) a w) : wpList P ops Q (o :: rest) a w := h
/-- A block made: the world behind it under a name of its own. -/
theorem alloc_arm (hwt : Region.wanted o (yielded ops a.tmps) = true) (ty : TypeId) (ho : o.op = .alloc ty) {z : Obj} (hr : (Instr.alloc ty true (.tuple #[])).run P w = .ok (.pointer (some ⟨w.heap.size, 0, none⟩)) (w.alloc z))
    (h : ∀ w', Below w.heap.size w w' → w'.heap[w.heap.size]? = some z → wpList P ops Q rest (a.put o.dst (.pointer (some ⟨w.heap.size, 0, none⟩))) w') : wpList P ops Q (o :: rest) a w :=
  BigFrame.wpList_want hwt fun K hK => by
    have hrun : (execOp a.eval o).run P w = .ok (.value (.pointer (some ⟨w.heap.size, 0, none⟩))) (w.alloc z) := by
      unfold execOp
      simp only [ho, Sem.run_bind, hr, Result.andThen_ok, Sem.run_pure]
    unfold Oper.wp
    rw [hrun, Oper.upon_value]
    exact hK _ _ (h _ (Below.alloc (Below.refl _ _) (Nat.le_refl _) z) (heap_alloc_new _ _))
end
end Go.Proofs.YtffcpmohanhihaaGreatDoor
namespace Go.Proofs.YtffcpmohanhihaaGreatDoor
open Go.RowKit
set_option linter.unusedVariables false
set_option linter.unusedSimpArgs false
theorem never_any (x y : ByteArray) (w : World) : Calls Tryz.prog 129 #[.string x, .string y] w fun e w' => e = .returned (.bool (nev x y)) ∧ Below w.heap.size w w' := by
  go_enter Tryz.func129, Tryz.ntmps129
  go_wp2
  go_ret
  exact ⟨rfl, Below.refl _ _⟩
theorem same_v (a : VT) : SameOk nev 129 (fun _ => True) a := by
  have hnum : ∀ (x y : ByteArray) (W : World), True → x.size ≤ 9223372036854775807 → y.size ≤ 9223372036854775807 → Calls Tryz.prog 129 #[.string x, .string y] W fun e w' => e = .returned (.bool (nev x y)) ∧ Below W.heap.size W w' := fun x y W _ _ _ => never_any x y W
  have key : ∀ a : VT, (∀ i, i < a.ln → SameOk nev 129 (fun _ => True) (a.lt i)) → (∀ i, i < a.mn → SameOk nev 129 (fun _ => True) (a.mt i)) → SameOk nev 129 (fun _ => True) a := by
    intro a ihl ihm b w hw ha hb
    cases h : (a.k == b.k && a.n == b.n && a.ln == b.ln && a.mn == b.mn)
    · exact same_no nev 129 Tryz.f129 Tryz.func129 (by kernel_rfl) (by kernel_rfl) (fun _ => True) (fun _ _ _ _ => trivial) hnum a b w h
    cases hs : (a.s.toList == b.s.toList)
    · exact same_txt nev 129 Tryz.f129 Tryz.func129 (by kernel_rfl) (by kernel_rfl) (fun _ => True) (fun _ _ _ _ => trivial) hnum a b w hw ha hb h hs (by simp [nev])
    · exact same_go nev 129 Tryz.f129 Tryz.func129 (by kernel_rfl) (by kernel_rfl) (fun _ => True) (fun _ _ _ _ => trivial) hnum a b w hw ha hb ihl ihm h hs
  induction a with
  | no => exact key .no (fun i hi => absurd hi (Nat.not_lt_zero i)) (fun i hi => absurd hi (Nat.not_lt_zero i))
  | mk k n s lA lb lo ln lc lt mA mb mo mn mc ky mt ihl ihm => exact key _ (fun i _ => ihl i) (fun i _ => ihm i)
set_option maxHeartbeats 1000000 in
theorem vSame_any (a b : VT) (w : World) (ha : VT.In w.heap.size w a) (hb : VT.In w.heap.size w b) : Calls Tryz.prog 110 #[.agg a.c, .agg b.c] w fun e w' => e = .returned (.bool (sameV a b)) ∧ Below w.heap.size w w' := by
  have H := Lib.hid (fun (W : World) (hW : Below w.heap.size w W) => same_v a b W trivial ((ha.move hW).up hW.size) ((hb.move hW).up hW.size))
  have hS0 : Sees w ((w.alloc (Obj.cells a.c 38)).alloc (Obj.cells b.c 38)) [(w.heap.size, Obj.cells a.c 38), (w.heap.size + 1, Obj.cells b.c 38)] := by
    have := ((Sees.start w).alloc (Obj.cells a.c 38)).alloc (Obj.cells b.c 38)
    simpa using this
  clear ha hb
  go_enter Tryz.func110, Tryz.ntmps110
  go_wp2_with (first | go_skip | (refine wpList_load_row' rfl 38 (.tmp 2) rfl _ rfl 38 _ (0, 0) _ hS0.g0 Tryz.underlying38 rfl (VT.val_info _) ?_) | (refine wpList_load_row' rfl 38 (.tmp 3) rfl _ rfl 38 _ (0, 0) _ hS0.g1 Tryz.underlying38 rfl (VT.val_info _) ?_) | (go_at_call 128; with_reducible (refine (H.out _ hS0.below).mono ?_); rintro e w1 ⟨rfl, hb1⟩))
  go_ret
  exact ⟨ret_bool rfl, (hS0.step hb1).below⟩
end Go.Proofs.YtffcpmohanhihaaGreatDoor
namespace Go.Proofs.YtffcpmohanhihaaGreatDoor
open Go.RowKit
set_option linter.unusedVariables false
set_option linter.unusedSimpArgs false
set_option maxHeartbeats 1000000 in
theorem zero_any (a : VT) (w : World) (ha : VT.In w.heap.size w a) : Calls Tryz.prog 96 #[.agg a.c] w fun e w' => e = .returned (.bool (sameV a .no)) ∧ Below w.heap.size w w' := by
  have H := Lib.hid (fun (W : World) (hW : Below w.heap.size w W) => vSame_any a .no W ((ha.move hW).up hW.size) (VT.no_in _ _))
  have hS0 : Sees w (w.alloc (Obj.cells a.c 38)) [(w.heap.size, Obj.cells a.c 38)] := (Sees.start w).alloc _
  clear ha
  go_enter Tryz.func96, Tryz.ntmps96
  go_wp2_with (first | go_skip | (refine wpList_load_row' rfl 38 (.tmp 1) rfl _ rfl 38 _ (0, 0) _ hS0.g0 Tryz.underlying38 rfl (VT.val_info _) ?_) | (go_at_call 110; refine (H.out _ hS0.below).mono ?_; rintro e w1 ⟨rfl, hb1⟩))
  go_ret
  exact ⟨ret_bool rfl, (hS0.step hb1).below⟩
end Go.Proofs.YtffcpmohanhihaaGreatDoor
namespace Go.Proofs.YtffcpmohanhihaaGreatDoor
open Go.RowKit
set_option linter.unusedVariables false
set_option linter.unusedSimpArgs false
/-- An operation over a tree. -/
def opOf (R N T : Int) (seen : List Int) (K OR ON : Int) (key : ByteArray) (AR AN M : Int) (t : VT) : OpV := { R, N, T, seen, K, OR, ON, key, AR, AN, M, VK := t.k, VN := t.n, VS := t.s, VL := t.L, VM := t.M }
theorem opOf_vc (R N T : Int) (seen : List Int) (K OR ON : Int) (key : ByteArray) (AR AN M : Int) (t : VT) : (opOf R N T seen K OR ON key AR AN M t).vc = t.c := rfl
theorem good_v (o : OpV) (t : VT) (w : World) (hw : Vars w) (ho : o.seen.length = 64) (hv : o.vc = t.c) (ht : VT.In w.heap.size w t) (hk : o.key.size ≤ 9223372036854775807) :
    Calls Tryz.prog 41 #[opv o] w fun e w' => e = .returned (.bool (opB o (goodT t) (sameV t .no) (validS o.key).2)) ∧ Below w.heap.size w w' := by
  refine oGood_any o _ _ _ w ho ?_ ?_ ?_
  · intro W hB
    rw [hv]
    exact goodT_any t W (hw.step hB) ((ht.move hB).up hB.size)
  · intro W hB
    rw [hv]
    exact zero_any t W ((ht.move hB).up hB.size)
  · exact fun W hB => (valid_any o.key W hk).mono fun e w' ⟨he, hb⟩ => ⟨⟨_, he⟩, hb⟩
def Z0 : List Int := List.replicate 64 0
def zeroO : OpV := opOf 0 0 0 Z0 0 0 0 ⟨#[]⟩ 0 0 0 .no
theorem op_one {o : OpV} (hL : o.VL.oneCell' = true) (hM : o.VM.oneCell' = true) : o.c.all (·.oneCell') = true := by
  have hi : ∀ k n, (Value.int k n).oneCell' = true := fun _ _ => rfl
  have hs : ∀ s, (Value.string s).oneCell' = true := fun _ => rfl
  simp [OpV.c, OpV.l, OpV.v, hL, hM, hi, hs]
theorem op_alloc (W : World) : (Instr.alloc 40 true (.tuple #[])).run Tryz.prog W = .ok (.pointer (some ⟨W.heap.size, 0, none⟩)) (W.alloc (Obj.cells zeroO.c 40)) := by kernel_rfl
theorem zero_cells : Tryz.zeroCells40 = zeroO.c := by kernel_rfl
end Go.Proofs.YtffcpmohanhihaaGreatDoor
namespace Go.Proofs.YtffcpmohanhihaaGreatDoor
open Go.RowKit
set_option linter.unusedVariables false
set_option linter.unusedSimpArgs false
theorem cell_block {w w' : World} {p : Addr} (h : w'.heap[p.block]? = w.heap[p.block]?) : w'.cell? p = w.cell? p := World.cell?_of_block (w := w) h
namespace VT
/-- All of a tree's blocks are so. -/
inductive At (P : Nat → Prop) : VT → Prop
  | mk {t : VT} (bl : 0 < t.ln → P t.lb) (bm : 0 < t.mn → P t.mb) (hl : ∀ i, i < t.ln → At P (t.lt i)) (hm : ∀ i, i < t.mn → At P (t.mt i)) : At P t
theorem At.bl {P : Nat → Prop} {t : VT} (h : At P t) : 0 < t.ln → P t.lb := by cases h; assumption
theorem At.bm {P : Nat → Prop} {t : VT} (h : At P t) : 0 < t.mn → P t.mb := by cases h; assumption
theorem At.l {P : Nat → Prop} {t : VT} (h : At P t) (i : Nat) (hi : i < t.ln) : At P (t.lt i) := by cases h with | mk _ _ hl _ => exact hl i hi
theorem At.m {P : Nat → Prop} {t : VT} (h : At P t) (i : Nat) (hi : i < t.mn) : At P (t.mt i) := by cases h with | mk _ _ _ hm => exact hm i hi
theorem At.imp {P Q : Nat → Prop} {t : VT} (h : At P t) (hPQ : ∀ b, P b → Q b) : At Q t := by
  induction h with
  | mk bl bm _ _ ihl ihm => exact .mk (fun h => hPQ _ (bl h)) (fun h => hPQ _ (bm h)) ihl ihm
theorem At.and {P Q : Nat → Prop} {t : VT} (h : At P t) (k : At Q t) : At (fun b => P b ∧ Q b) t := by
  induction h with
  | mk bl bm _ _ ihl ihm => exact .mk (fun h => ⟨bl h, k.bl h⟩) (fun h => ⟨bm h, k.bm h⟩) (fun i hi => ihl i hi (k.l i hi)) (fun i hi => ihm i hi (k.m i hi))
theorem In.at_ {B : Nat} {w : World} {t : VT} (h : In B w t) : At (fun b => b < B) t := by
  induction h with
  | mk h _ _ ihl ihm => exact .mk (fun hn => (h.la hn).2) (fun hn => (h.ma hn).2) ihl ihm
theorem Here.keep {B : Nat} {w w' : World} {t : VT} (h : Here B w t) (kl : 0 < t.ln → w'.heap[t.lb]? = w.heap[t.lb]?) (km : 0 < t.mn → w'.heap[t.mb]? = w.heap[t.mb]?) : Here B w' t :=
  { h with
    lcell := fun i hi j v hv => (cell_block (p := ⟨t.lb, t.lo + i * 5 + j, none⟩) (kl (by omega))).trans (h.lcell i hi j v hv)
    mcell := fun i hi j v hv => (cell_block (p := ⟨t.mb, t.mo + i * 6 + j, none⟩) (km (by omega))).trans (h.mcell i hi j v hv) }
/-- A tree stays where all of its blocks do. -/
theorem In.keep {B : Nat} {w w' : World} {t : VT} {P : Nat → Prop} (h : In B w t) (ha : At P t) (hk : ∀ b, P b → w'.heap[b]? = w.heap[b]?) : In B w' t := by
  induction h with
  | mk h _ _ ihl ihm => exact .mk (h.keep (fun hn => hk _ (ha.bl hn)) (fun hn => hk _ (ha.bm hn))) (fun i hi => ihl i hi (ha.l i hi)) (fun i hi => ihm i hi (ha.m i hi))
/-- The same but one block. -/
theorem In.but {B b : Nat} {w w' : World} {t : VT} (h : In B w t) (ha : At (fun x => x ≠ b) t) (hk : ∀ k, k ≠ b → w'.heap[k]? = w.heap[k]?) : In B w' t := h.keep ha (fun x hx => hk x hx)
theorem leaf_at (P : Nat → Prop) (k n : Int) (s : ByteArray) : At P (leaf k n s) := .mk (fun h => absurd h (Nat.lt_irrefl 0)) (fun h => absurd h (Nat.lt_irrefl 0)) (fun i hi => absurd hi (Nat.not_lt_zero i)) (fun i hi => absurd hi (Nat.not_lt_zero i))
theorem no_at (P : Nat → Prop) : At P no := .mk (fun h => absurd h (Nat.lt_irrefl 0)) (fun h => absurd h (Nat.lt_irrefl 0)) (fun i hi => absurd hi (Nat.not_lt_zero i)) (fun i hi => absurd hi (Nat.not_lt_zero i))
/-- No node has more parts than a machine's memory holds. -/
inductive Sm : VT → Prop
  | mk {t : VT} (l0 : t.ln * 80 ≤ 140737488355328) (m0 : t.mn * 96 ≤ 140737488355328) (hl : ∀ i, i < t.ln → Sm (t.lt i)) (hm : ∀ i, i < t.mn → Sm (t.mt i)) : Sm t
theorem Sm.l0 {t : VT} (h : Sm t) : t.ln * 80 ≤ 140737488355328 := by cases h; assumption
theorem Sm.m0 {t : VT} (h : Sm t) : t.mn * 96 ≤ 140737488355328 := by cases h; assumption
theorem Sm.l {t : VT} (h : Sm t) (i : Nat) (hi : i < t.ln) : Sm (t.lt i) := by cases h with | mk _ _ hl _ => exact hl i hi
theorem Sm.m {t : VT} (h : Sm t) (i : Nat) (hi : i < t.mn) : Sm (t.mt i) := by cases h with | mk _ _ _ hm => exact hm i hi
theorem leaf_sm (k n : Int) (s : ByteArray) : Sm (leaf k n s) := .mk (by show (0 : Nat) * 80 ≤ _; omega) (by show (0 : Nat) * 96 ≤ _; omega) (fun i hi => absurd hi (Nat.not_lt_zero i)) (fun i hi => absurd hi (Nat.not_lt_zero i))
theorem no_sm : Sm no := .mk (by show (0 : Nat) * 80 ≤ _; omega) (by show (0 : Nat) * 96 ≤ _; omega) (fun i hi => absurd hi (Nat.not_lt_zero i)) (fun i hi => absurd hi (Nat.not_lt_zero i))
end VT

end Go.Proofs.YtffcpmohanhihaaGreatDoor
namespace Go.Proofs.YtffcpmohanhihaaGreatDoor
open Go.RowKit
set_option linter.unusedVariables false
set_option linter.unusedSimpArgs false
set_option linter.unusedSectionVars false
/-- Rows of sz cells each, one behind the other. -/
def flatL (F : Nat → List Value) (n : Nat) : List Value := (List.range n).flatMap F
theorem flatL_succ (F : Nat → List Value) (n : Nat) : flatL F (n + 1) = flatL F n ++ F n := by unfold flatL; rw [List.range_succ, List.flatMap_append]; simp
theorem flatL_len (F : Nat → List Value) (sz : Nat) (hF : ∀ i, (F i).length = sz) (n : Nat) : (flatL F n).length = n * sz := by
  induction n with
  | zero => simp [flatL]
  | succ n ih => rw [flatL_succ, List.length_append, ih, hF]; rw [Nat.add_mul]; omega
theorem flatL_get (F : Nat → List Value) (sz : Nat) (hF : ∀ i, (F i).length = sz) (n i k : Nat) (hi : i < n) (hk : k < sz) : (flatL F n)[i * sz + k]? = (F i)[k]? := by
  induction n with
  | zero => omega
  | succ n ih =>
    rw [flatL_succ]
    have hl := flatL_len F sz hF n
    by_cases h : i < n
    · have h2 : i * sz + k < n * sz := by
        have : (i + 1) * sz ≤ n * sz := Nat.mul_le_mul_right _ h
        rw [Nat.add_mul] at this
        omega
      rw [List.getElem?_append_left (by omega)]
      exact ih h
    · obtain rfl : i = n := by omega
      rw [List.getElem?_append_right (by omega), hl]
      congr 1
      omega
theorem flatL_at (F : Nat → List Value) (sz : Nat) (hF : ∀ i, (F i).length = sz) (h0 : 0 < sz) (n j : Nat) (u : Value) (h : (flatL F n)[j]? = some u) : j / sz < n ∧ (F (j / sz))[j % sz]? = some u := by
  have hj := (List.getElem?_eq_some_iff.1 h).1
  rw [flatL_len F sz hF] at hj
  have hi : j / sz < n := Nat.div_lt_of_lt_mul (by rw [Nat.mul_comm]; exact hj)
  have hk : j % sz < sz := Nat.mod_lt _ h0
  have e : j / sz * sz + j % sz = j := by rw [Nat.mul_comm]; exact Nat.div_add_mod j sz
  rw [← flatL_get F sz hF n (j / sz) (j % sz) hi hk, e]
  exact ⟨hi, h⟩
theorem flatL_one (F : Nat → List Value) (n : Nat) (h1 : ∀ i, ∀ u ∈ F i, u.oneCell' = true) : ∀ u ∈ flatL F n, u.oneCell' = true := by
  intro u hu
  unfold flatL at hu
  obtain ⟨i, _, hi⟩ := List.mem_flatMap.1 hu
  exact h1 i u hi
def valL (t : VT) (i : Nat) : List Value := (t.lt i).c.toList
def pairL (t : VT) (i : Nat) : List Value := (t.pc i).toList
theorem valL_len (t : VT) (i : Nat) : (valL t i).length = 5 := rfl
theorem pairL_len (t : VT) (i : Nat) : (pairL t i).length = 6 := rfl
theorem infoV : (Tryz.prog.info? 38).map (fun i => (i.zero, i.size, i.bytes)) = some (some (.agg VT.no.c), 5, 80) := by kernel_rfl
theorem infoP : (Tryz.prog.info? 82).map (fun i => (i.zero, i.size, i.bytes)) = some (some (.agg (#[.string ⟨#[]⟩] ++ VT.no.c)), 6, 96) := by kernel_rfl
theorem add_row (b o j : Nat) : (⟨b, o, none⟩ : Addr).add j = ⟨b, o + j, none⟩ := by unfold Addr.add; split <;> simp_all
set_option maxRecDepth 100000 in
theorem cloneV_nil (n c : Nat) (w : World) : Calls Tryz.prog 86 #[.slice none n c] w fun e w' => e = .returned (.slice none 0 0) ∧ Below w.heap.size w w' := by
  have q := fun (w : World) (a : Option Addr) (n c : Nat) => Lib.run_eql_slice_nil (P := Tryz.prog) w 35 38 a n c 0 0 Tryz.underlying35
  go_enter Tryz.func86, Tryz.ntmps86
  go_wp2
  go_ret
  exact ⟨rfl, Below.refl _ _⟩
set_option maxHeartbeats 1000000 in
set_option maxRecDepth 100000 in
theorem cloneV_some (ad : Addr) (n c : Nat) (news : List Value) (w : World) (hl : news.length = n * 5) (hn : n * 80 ≤ 140737488355328) (hc : ∀ j u, news[j]? = some u → w.cell? (ad.add j) = some u) (h1 : ∀ u ∈ news, u.oneCell' = true) :
    Calls Tryz.prog 86 #[.slice (some ad) n c] w fun e w' => ∃ v', e = .returned v' ∧ w'.ownsRow w.heap.size 38 5 v' n news ∧ v' ≠ .slice none 0 0 ∧ Below w.heap.size w w' := by
  have q := fun (w : World) (a : Option Addr) (n c : Nat) => Lib.run_eql_slice_nil (P := Tryz.prog) w 35 38 a n c 0 0 Tryz.underlying35
  obtain ⟨i0, hi, hz⟩ := Option.map_eq_some_iff.1 infoV
  have hz0 : i0.zero = some (.agg VT.no.c) := congrArg Prod.fst hz
  have hz1 : i0.size = 5 := congrArg (fun x => x.2.1) hz
  have hz2 : i0.bytes = 80 := congrArg (fun x => x.2.2) hz
  have HC := Lib.hid hc
  have hm : n ≤ maxLen := by have : maxLen = 9223372036854775807 := (by decide); omega
  clear hc hz
  go_enter Tryz.func86, Tryz.ntmps86
  go_wp2_with (at_builtin; refine wpList_append_own _ rfl _ _ 35 rfl w.heap.size 38 i0 (.agg VT.no.c) 5 80 Tryz.underlying35 hi hz0 hz1 hz2 (by kernel_rfl) (by decide) _ _ _ rfl (World.ownsRow_made w #[] 0 (Nat.le_refl _) (Nat.zero_le _) (by simp)) ad n c news rfl hl ?qc2 h1 ?qc4 ?qc5 ?qc6 ?_)
  case qc2 => exact fun j u hj => Lib.cell?_alloc_some _ (HC.out j u hj)
  case qc4 => rw [Nat.zero_add]; exact hm
  case qc5 => rw [Nat.zero_add]; exact hn
  case qc6 => simp
  intro v' w1 hown hgrow hnil
  go_wp2
  go_ret
  refine ⟨v', rfl, by simpa using hown, ?_, ?_⟩
  · exact hnil
  · exact ((Below.refl _ w).alloc (Nat.le_refl _) _).grown hgrow (by simp) (by intro k hk; simp [Value.ownBlock] at hk; omega)
set_option maxRecDepth 100000 in
theorem cloneP_nil (n c : Nat) (w : World) : Calls Tryz.prog 87 #[.slice none n c] w fun e w' => e = .returned (.slice none 0 0) ∧ Below w.heap.size w w' := by
  have q := fun (w : World) (a : Option Addr) (n c : Nat) => Lib.run_eql_slice_nil (P := Tryz.prog) w 36 82 a n c 0 0 Tryz.underlying36
  go_enter Tryz.func87, Tryz.ntmps87
  go_wp2
  go_ret
  exact ⟨rfl, Below.refl _ _⟩
set_option maxHeartbeats 1000000 in
set_option maxRecDepth 100000 in
theorem cloneP_some (ad : Addr) (n c : Nat) (news : List Value) (w : World) (hl : news.length = n * 6) (hn : n * 96 ≤ 140737488355328) (hc : ∀ j u, news[j]? = some u → w.cell? (ad.add j) = some u) (h1 : ∀ u ∈ news, u.oneCell' = true) :
    Calls Tryz.prog 87 #[.slice (some ad) n c] w fun e w' => ∃ v', e = .returned v' ∧ w'.ownsRow w.heap.size 82 6 v' n news ∧ v' ≠ .slice none 0 0 ∧ Below w.heap.size w w' := by
  have q := fun (w : World) (a : Option Addr) (n c : Nat) => Lib.run_eql_slice_nil (P := Tryz.prog) w 36 82 a n c 0 0 Tryz.underlying36
  obtain ⟨i0, hi, hz⟩ := Option.map_eq_some_iff.1 infoP
  have hz0 : i0.zero = some (.agg (#[.string ⟨#[]⟩] ++ VT.no.c)) := congrArg Prod.fst hz
  have hz1 : i0.size = 6 := congrArg (fun x => x.2.1) hz
  have hz2 : i0.bytes = 96 := congrArg (fun x => x.2.2) hz
  have HC := Lib.hid hc
  have hm : n ≤ maxLen := by have : maxLen = 9223372036854775807 := (by decide); omega
  clear hc hz
  go_enter Tryz.func87, Tryz.ntmps87
  go_wp2_with (at_builtin; refine wpList_append_own _ rfl _ _ 36 rfl w.heap.size 82 i0 (.agg (#[.string ⟨#[]⟩] ++ VT.no.c)) 6 96 Tryz.underlying36 hi hz0 hz1 hz2 (by kernel_rfl) (by decide) _ _ _ rfl (World.ownsRow_made w #[] 0 (Nat.le_refl _) (Nat.zero_le _) (by simp)) ad n c news rfl hl ?qc2 h1 ?qc4 ?qc5 ?qc6 ?_)
  case qc2 => exact fun j u hj => Lib.cell?_alloc_some _ (HC.out j u hj)
  case qc4 => rw [Nat.zero_add]; exact hm
  case qc5 => rw [Nat.zero_add]; exact hn
  case qc6 => simp
  intro v' w1 hown hgrow hnil
  go_wp2
  go_ret
  refine ⟨v', rfl, by simpa using hown, ?_, ?_⟩
  · exact hnil
  · exact ((Below.refl _ w).alloc (Nat.le_refl _) _).grown hgrow (by simp) (by intro k hk; simp [Value.ownBlock] at hk; omega)
end Go.Proofs.YtffcpmohanhihaaGreatDoor
namespace Go.Proofs.YtffcpmohanhihaaGreatDoor
open Go.RowKit
set_option linter.unusedVariables false
set_option linter.unusedSimpArgs false
namespace VT
/-- No block of the one is a block of the other. -/
def Apart (x y : VT) : Prop := ∃ P : Nat → Prop, At P x ∧ At (fun b => ¬ P b) y
theorem Apart.symm {x y : VT} (h : Apart x y) : Apart y x := by
  obtain ⟨P, h1, h2⟩ := h
  exact ⟨fun b => ¬ P b, h2, h1.imp fun b hb => fun h => h hb⟩
theorem apart_at {x y : VT} {c : Nat} (h1 : At (fun b => b < c) x) (h2 : At (fun b => c ≤ b) y) : Apart x y := ⟨fun b => b < c, h1, h2.imp fun b hb => by omega⟩
inductive Free (W : World) : VT → Prop
  | mk {t : VT} (rl : 0 < t.ln → ∃ cur, W.heap[t.lb]? = some (.cells cur 38 (0, 0))) (rm : 0 < t.mn → ∃ cur, W.heap[t.mb]? = some (.cells cur 82 (0, 0))) (no : 0 < t.ln → 0 < t.mn → t.lb ≠ t.mb)
    (hl : ∀ i, i < t.ln → Free W (t.lt i)) (hm : ∀ i, i < t.mn → Free W (t.mt i)) (ll : ∀ i j, i < j → j < t.ln → Apart (t.lt i) (t.lt j)) (mm : ∀ i j, i < j → j < t.mn → Apart (t.mt i) (t.mt j)) (lm : ∀ i j, i < t.ln → j < t.mn → Apart (t.lt i) (t.mt j))
    (ol : ∀ i, i < t.ln → At (fun b => (0 < t.ln → b ≠ t.lb) ∧ (0 < t.mn → b ≠ t.mb)) (t.lt i)) (om : ∀ i, i < t.mn → At (fun b => (0 < t.ln → b ≠ t.lb) ∧ (0 < t.mn → b ≠ t.mb)) (t.mt i)) : Free W t
/-- What a node says of itself. -/
structure FreeH (W : World) (t : VT) : Prop where
  rl : 0 < t.ln → ∃ cur, W.heap[t.lb]? = some (.cells cur 38 (0, 0))
  rm : 0 < t.mn → ∃ cur, W.heap[t.mb]? = some (.cells cur 82 (0, 0))
  no : 0 < t.ln → 0 < t.mn → t.lb ≠ t.mb
  hl : ∀ i, i < t.ln → Free W (t.lt i)
  hm : ∀ i, i < t.mn → Free W (t.mt i)
  ll : ∀ i j, i < j → j < t.ln → Apart (t.lt i) (t.lt j)
  mm : ∀ i j, i < j → j < t.mn → Apart (t.mt i) (t.mt j)
  lm : ∀ i j, i < t.ln → j < t.mn → Apart (t.lt i) (t.mt j)
  ol : ∀ i, i < t.ln → At (fun b => (0 < t.ln → b ≠ t.lb) ∧ (0 < t.mn → b ≠ t.mb)) (t.lt i)
  om : ∀ i, i < t.mn → At (fun b => (0 < t.ln → b ≠ t.lb) ∧ (0 < t.mn → b ≠ t.mb)) (t.mt i)
theorem Free.h {W : World} {t : VT} (h : Free W t) : FreeH W t := by
  cases h with
  | mk rl rm no hl hm ll mm lm ol om => exact ⟨rl, rm, no, hl, hm, ll, mm, lm, ol, om⟩
theorem Free.keep {W W' : World} {t : VT} {P : Nat → Prop} (h : Free W t) (ha : At P t) (hk : ∀ b, P b → W'.heap[b]? = W.heap[b]?) : Free W' t := by
  induction h with
  | mk rl rm no hl hm ll mm lm ol om ihl ihm =>
    refine .mk (fun hn => ?_) (fun hn => ?_) no (fun i hi => ihl i hi (ha.l i hi)) (fun i hi => ihm i hi (ha.m i hi)) ll mm lm ol om
    · rw [hk _ (ha.bl hn)]; exact rl hn
    · rw [hk _ (ha.bm hn)]; exact rm hn
theorem no_free (W : World) : Free W .no := .mk (fun h => absurd h (Nat.lt_irrefl 0)) (fun h => absurd h (Nat.lt_irrefl 0)) (fun h => absurd h (Nat.lt_irrefl 0)) (fun i hi => absurd hi (Nat.not_lt_zero i)) (fun i hi => absurd hi (Nat.not_lt_zero i)) (fun i j _ hj => absurd hj (Nat.not_lt_zero j)) (fun i j _ hj => absurd hj (Nat.not_lt_zero j)) (fun i j hi _ => absurd hi (Nat.not_lt_zero i)) (fun i hi => absurd hi (Nat.not_lt_zero i)) (fun i hi => absurd hi (Nat.not_lt_zero i))
end VT
end Go.Proofs.YtffcpmohanhihaaGreatDoor
namespace Go.Proofs.YtffcpmohanhihaaGreatDoor
open Go.RowKit
theorem val_alloc (W : World) : (Instr.alloc 38 true (.tuple #[])).run Tryz.prog W = .ok (.pointer (some ⟨W.heap.size, 0, none⟩)) (W.alloc (Obj.cells VT.no.c 38)) := by kernel_rfl
theorem build_no (W : World) : (Instr.build 38 #[]).run Tryz.prog W = .ok (.agg VT.no.c) W := by kernel_rfl
theorem build_k (k : Int) (W : World) : (Instr.build 38 #[(0, .int .i64 k)]).run Tryz.prog W = .ok (.agg (VT.leaf k 0 ⟨#[]⟩).c) W := by kernel_rfl
theorem build_ks (k : Int) (s : ByteArray) (W : World) : (Instr.build 38 #[(0, .int .i64 k), (2, .string s)]).run Tryz.prog W = .ok (.agg (VT.leaf k 0 s).c) W := by kernel_rfl
theorem build_kn (k n : Int) (W : World) : (Instr.build 38 #[(0, .int .i64 k), (1, .int .i64 n)]).run Tryz.prog W = .ok (.agg (VT.leaf k n ⟨#[]⟩).c) W := by kernel_rfl
end Go.Proofs.YtffcpmohanhihaaGreatDoor
