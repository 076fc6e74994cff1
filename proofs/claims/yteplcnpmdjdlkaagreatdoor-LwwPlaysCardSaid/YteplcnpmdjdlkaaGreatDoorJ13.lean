/-
  Where a tree's blocks lie; a tree stays where its blocks do; a tree whose nodes lie at other addresses. No condition.
  slices.Clone at values and pairs: a row of the call's own with the same cells. Condition: no longer than a machine's memory.
  A tree whose rows are whole blocks, each of its own: what may be written over. No condition.
-/
import Derived.Test.YteplcnpmdjdlkaaGreatDoorJ10
import Derived.Test.YteplcnpmdjdlkaaGreatDoorJ7
import Derived.Laws.AppendOwn
import Derived.Lib.LazyBuf
namespace Go.Proofs.YteplcnpmdjdlkaaGreatDoor
open Go.RowKit
set_option linter.unusedVariables false
set_option linter.unusedSimpArgs false
theorem cell_block {w w' : World} {p : Addr} (h : w'.heap[p.block]? = w.heap[p.block]?) : w'.cell? p = w.cell? p := World.cell?_of_block (w := w) h
namespace VT
/-- All of a tree's blocks are so. -/
inductive At (P : Nat → Prop) : VT → Prop
  | mk {t : VT} (bl : 0 < t.ln → P t.lb) (bm : 0 < t.mn → P t.mb) (hl : ∀ i, i < t.ln → At P (t.lt i)) (hm : ∀ i, i < t.mn → At P (t.mt i)) : At P t
theorem At.bl {P : Nat → Prop} {t : VT} (h : At P t) : 0 < t.ln → P t.lb := by cases h; assumption
theorem At.bm {P : Nat → Prop} {t : VT} (h : At P t) : 0 < t.mn → P t.mb := by cases h; assumption
theorem At.l {P : Nat → Prop} {t : VT} (h : At P t) (i : Nat) (hi : i < t.ln) : At P (t.lt i) := by cases h with | mk _ _ hl _ => exact hl i hi
theorem At.m {P : Nat → Prop} {t : VT} (h : At P t) (i : Nat) (hi : i < t.mn) : At P (t.mt i) := by cases h with | mk _ _ _ hm => exact hm i hi
theorem At.imp {P Q : Nat → Prop} {t : VT} (h : At P t) (hPQ : ∀ b, P b → Q b) : At Q t := by
  induction h with
  | mk bl bm _ _ ihl ihm => exact .mk (fun h => hPQ _ (bl h)) (fun h => hPQ _ (bm h)) ihl ihm
theorem At.and {P Q : Nat → Prop} {t : VT} (h : At P t) (k : At Q t) : At (fun b => P b ∧ Q b) t := by
  induction h with
  | mk bl bm _ _ ihl ihm => exact .mk (fun h => ⟨bl h, k.bl h⟩) (fun h => ⟨bm h, k.bm h⟩) (fun i hi => ihl i hi (k.l i hi)) (fun i hi => ihm i hi (k.m i hi))
theorem In.at_ {B : Nat} {w : World} {t : VT} (h : In B w t) : At (fun b => b < B) t := by
  induction h with
  | mk h _ _ ihl ihm => exact .mk (fun hn => (h.la hn).2) (fun hn => (h.ma hn).2) ihl ihm
theorem Here.keep {B : Nat} {w w' : World} {t : VT} (h : Here B w t) (kl : 0 < t.ln → w'.heap[t.lb]? = w.heap[t.lb]?) (km : 0 < t.mn → w'.heap[t.mb]? = w.heap[t.mb]?) : Here B w' t :=
  { h with
    lcell := fun i hi j v hv => (cell_block (p := ⟨t.lb, t.lo + i * 5 + j, none⟩) (kl (by omega))).trans (h.lcell i hi j v hv)
    mcell := fun i hi j v hv => (cell_block (p := ⟨t.mb, t.mo + i * 6 + j, none⟩) (km (by omega))).trans (h.mcell i hi j v hv) }
/-- A tree stays where all of its blocks do. -/
theorem In.keep {B : Nat} {w w' : World} {t : VT} {P : Nat → Prop} (h : In B w t) (ha : At P t) (hk : ∀ b, P b → w'.heap[b]? = w.heap[b]?) : In B w' t := by
  induction h with
  | mk h _ _ ihl ihm => exact .mk (h.keep (fun hn => hk _ (ha.bl hn)) (fun hn => hk _ (ha.bm hn))) (fun i hi => ihl i hi (ha.l i hi)) (fun i hi => ihm i hi (ha.m i hi))
/-- The same but one block. -/
theorem In.but {B b : Nat} {w w' : World} {t : VT} (h : In B w t) (ha : At (fun x => x ≠ b) t) (hk : ∀ k, k ≠ b → w'.heap[k]? = w.heap[k]?) : In B w' t := h.keep ha (fun x hx => hk x hx)
theorem leaf_at (P : Nat → Prop) (k n : Int) (s : ByteArray) : At P (leaf k n s) := .mk (fun h => absurd h (Nat.lt_irrefl 0)) (fun h => absurd h (Nat.lt_irrefl 0)) (fun i hi => absurd hi (Nat.not_lt_zero i)) (fun i hi => absurd hi (Nat.not_lt_zero i))
theorem no_at (P : Nat → Prop) : At P no := .mk (fun h => absurd h (Nat.lt_irrefl 0)) (fun h => absurd h (Nat.lt_irrefl 0)) (fun i hi => absurd hi (Nat.not_lt_zero i)) (fun i hi => absurd hi (Nat.not_lt_zero i))
/-- No node has more parts than a machine's memory holds. -/
inductive Sm : VT → Prop
  | mk {t : VT} (l0 : t.ln * 80 ≤ 140737488355328) (m0 : t.mn * 96 ≤ 140737488355328) (hl : ∀ i, i < t.ln → Sm (t.lt i)) (hm : ∀ i, i < t.mn → Sm (t.mt i)) : Sm t
theorem Sm.l0 {t : VT} (h : Sm t) : t.ln * 80 ≤ 140737488355328 := by cases h; assumption
theorem Sm.m0 {t : VT} (h : Sm t) : t.mn * 96 ≤ 140737488355328 := by cases h; assumption
theorem Sm.l {t : VT} (h : Sm t) (i : Nat) (hi : i < t.ln) : Sm (t.lt i) := by cases h with | mk _ _ hl _ => exact hl i hi
theorem Sm.m {t : VT} (h : Sm t) (i : Nat) (hi : i < t.mn) : Sm (t.mt i) := by cases h with | mk _ _ _ hm => exact hm i hi
theorem leaf_sm (k n : Int) (s : ByteArray) : Sm (leaf k n s) := .mk (by show (0 : Nat) * 80 ≤ _; omega) (by show (0 : Nat) * 96 ≤ _; omega) (fun i hi => absurd hi (Nat.not_lt_zero i)) (fun i hi => absurd hi (Nat.not_lt_zero i))
theorem no_sm : Sm no := .mk (by show (0 : Nat) * 80 ≤ _; omega) (by show (0 : Nat) * 96 ≤ _; omega) (fun i hi => absurd hi (Nat.not_lt_zero i)) (fun i hi => absurd hi (Nat.not_lt_zero i))
end VT

end Go.Proofs.YteplcnpmdjdlkaaGreatDoor
namespace Go.Proofs.YteplcnpmdjdlkaaGreatDoor
open Go.RowKit
set_option linter.unusedVariables false
set_option linter.unusedSimpArgs false
set_option linter.unusedSectionVars false
/-- Rows of sz cells each, one behind the other. -/
def flatL (F : Nat → List Value) (n : Nat) : List Value := (List.range n).flatMap F
theorem flatL_succ (F : Nat → List Value) (n : Nat) : flatL F (n + 1) = flatL F n ++ F n := by unfold flatL; rw [List.range_succ, List.flatMap_append]; simp
theorem flatL_len (F : Nat → List Value) (sz : Nat) (hF : ∀ i, (F i).length = sz) (n : Nat) : (flatL F n).length = n * sz := by
  induction n with
  | zero => simp [flatL]
  | succ n ih => rw [flatL_succ, List.length_append, ih, hF]; rw [Nat.add_mul]; omega
theorem flatL_get (F : Nat → List Value) (sz : Nat) (hF : ∀ i, (F i).length = sz) (n i k : Nat) (hi : i < n) (hk : k < sz) : (flatL F n)[i * sz + k]? = (F i)[k]? := by
  induction n with
  | zero => omega
  | succ n ih =>
    rw [flatL_succ]
    have hl := flatL_len F sz hF n
    by_cases h : i < n
    · have h2 : i * sz + k < n * sz := by
        have : (i + 1) * sz ≤ n * sz := Nat.mul_le_mul_right _ h
        rw [Nat.add_mul] at this
        omega
      rw [List.getElem?_append_left (by omega)]
      exact ih h
    · obtain rfl : i = n := by omega
      rw [List.getElem?_append_right (by omega), hl]
      congr 1
      omega
theorem flatL_at (F : Nat → List Value) (sz : Nat) (hF : ∀ i, (F i).length = sz) (h0 : 0 < sz) (n j : Nat) (u : Value) (h : (flatL F n)[j]? = some u) : j / sz < n ∧ (F (j / sz))[j % sz]? = some u := by
  have hj := (List.getElem?_eq_some_iff.1 h).1
  rw [flatL_len F sz hF] at hj
  have hi : j / sz < n := Nat.div_lt_of_lt_mul (by rw [Nat.mul_comm]; exact hj)
  have hk : j % sz < sz := Nat.mod_lt _ h0
  have e : j / sz * sz + j % sz = j := by rw [Nat.mul_comm]; exact Nat.div_add_mod j sz
  rw [← flatL_get F sz hF n (j / sz) (j % sz) hi hk, e]
  exact ⟨hi, h⟩
theorem flatL_one (F : Nat → List Value) (n : Nat) (h1 : ∀ i, ∀ u ∈ F i, u.oneCell' = true) : ∀ u ∈ flatL F n, u.oneCell' = true := by
  intro u hu
  unfold flatL at hu
  obtain ⟨i, _, hi⟩ := List.mem_flatMap.1 hu
  exact h1 i u hi
def valL (t : VT) (i : Nat) : List Value := (t.lt i).c.toList
def pairL (t : VT) (i : Nat) : List Value := (t.pc i).toList
theorem valL_len (t : VT) (i : Nat) : (valL t i).length = 5 := rfl
theorem pairL_len (t : VT) (i : Nat) : (pairL t i).length = 6 := rfl
theorem infoV : (Tryz.prog.info? 34).map (fun i => (i.zero, i.size, i.bytes)) = some (some (.agg VT.no.c), 5, 80) := by kernel_rfl
theorem infoP : (Tryz.prog.info? 79).map (fun i => (i.zero, i.size, i.bytes)) = some (some (.agg (#[.string ⟨#[]⟩] ++ VT.no.c)), 6, 96) := by kernel_rfl
theorem add_row (b o j : Nat) : (⟨b, o, none⟩ : Addr).add j = ⟨b, o + j, none⟩ := by unfold Addr.add; split <;> simp_all
set_option maxRecDepth 100000 in
theorem cloneV_nil (n c : Nat) (w : World) : Calls Tryz.prog 54 #[.slice none n c] w fun e w' => e = .returned (.slice none 0 0) ∧ Below w.heap.size w w' := by
  have q := fun (w : World) (a : Option Addr) (n c : Nat) => Lib.run_eql_slice_nil (P := Tryz.prog) w 31 34 a n c 0 0 Tryz.underlying31
  go_enter Tryz.func54, Tryz.ntmps54
  go_wp2
  go_ret
  exact ⟨rfl, Below.refl _ _⟩
set_option maxHeartbeats 1000000 in
set_option maxRecDepth 100000 in
theorem cloneV_some (ad : Addr) (n c : Nat) (news : List Value) (w : World) (hl : news.length = n * 5) (hn : n * 80 ≤ 140737488355328) (hc : ∀ j u, news[j]? = some u → w.cell? (ad.add j) = some u) (h1 : ∀ u ∈ news, u.oneCell' = true) :
    Calls Tryz.prog 54 #[.slice (some ad) n c] w fun e w' => ∃ v', e = .returned v' ∧ w'.ownsRow w.heap.size 34 5 v' n news ∧ v' ≠ .slice none 0 0 ∧ Below w.heap.size w w' := by
  have q := fun (w : World) (a : Option Addr) (n c : Nat) => Lib.run_eql_slice_nil (P := Tryz.prog) w 31 34 a n c 0 0 Tryz.underlying31
  obtain ⟨i0, hi, hz⟩ := Option.map_eq_some_iff.1 infoV
  have hz0 : i0.zero = some (.agg VT.no.c) := congrArg Prod.fst hz
  have hz1 : i0.size = 5 := congrArg (fun x => x.2.1) hz
  have hz2 : i0.bytes = 80 := congrArg (fun x => x.2.2) hz
  have HC := Lib.hid hc
  have hm : n ≤ maxLen := by have : maxLen = 9223372036854775807 := (by decide); omega
  clear hc hz
  go_enter Tryz.func54, Tryz.ntmps54
  go_wp2_with (at_builtin; refine wpList_append_own _ rfl _ _ 31 rfl w.heap.size 34 i0 (.agg VT.no.c) 5 80 Tryz.underlying31 hi hz0 hz1 hz2 (by kernel_rfl) (by decide) _ _ _ rfl (World.ownsRow_made w #[] 0 (Nat.le_refl _) (Nat.zero_le _) (by simp)) ad n c news rfl hl ?qc2 h1 ?qc4 ?qc5 ?qc6 ?_)
  case qc2 => exact fun j u hj => Lib.cell?_alloc_some _ (HC.out j u hj)
  case qc4 => rw [Nat.zero_add]; exact hm
  case qc5 => rw [Nat.zero_add]; exact hn
  case qc6 => simp
  intro v' w1 hown hgrow hnil
  go_wp2
  go_ret
  refine ⟨v', rfl, by simpa using hown, ?_, ?_⟩
  · exact hnil
  · exact ((Below.refl _ w).alloc (Nat.le_refl _) _).grown hgrow (by simp) (by intro k hk; simp [Value.ownBlock] at hk; omega)
set_option maxRecDepth 100000 in
theorem cloneP_nil (n c : Nat) (w : World) : Calls Tryz.prog 55 #[.slice none n c] w fun e w' => e = .returned (.slice none 0 0) ∧ Below w.heap.size w w' := by
  have q := fun (w : World) (a : Option Addr) (n c : Nat) => Lib.run_eql_slice_nil (P := Tryz.prog) w 32 79 a n c 0 0 Tryz.underlying32
  go_enter Tryz.func55, Tryz.ntmps55
  go_wp2
  go_ret
  exact ⟨rfl, Below.refl _ _⟩
set_option maxHeartbeats 1000000 in
set_option maxRecDepth 100000 in
theorem cloneP_some (ad : Addr) (n c : Nat) (news : List Value) (w : World) (hl : news.length = n * 6) (hn : n * 96 ≤ 140737488355328) (hc : ∀ j u, news[j]? = some u → w.cell? (ad.add j) = some u) (h1 : ∀ u ∈ news, u.oneCell' = true) :
    Calls Tryz.prog 55 #[.slice (some ad) n c] w fun e w' => ∃ v', e = .returned v' ∧ w'.ownsRow w.heap.size 79 6 v' n news ∧ v' ≠ .slice none 0 0 ∧ Below w.heap.size w w' := by
  have q := fun (w : World) (a : Option Addr) (n c : Nat) => Lib.run_eql_slice_nil (P := Tryz.prog) w 32 79 a n c 0 0 Tryz.underlying32
  obtain ⟨i0, hi, hz⟩ := Option.map_eq_some_iff.1 infoP
  have hz0 : i0.zero = some (.agg (#[.string ⟨#[]⟩] ++ VT.no.c)) := congrArg Prod.fst hz
  have hz1 : i0.size = 6 := congrArg (fun x => x.2.1) hz
  have hz2 : i0.bytes = 96 := congrArg (fun x => x.2.2) hz
  have HC := Lib.hid hc
  have hm : n ≤ maxLen := by have : maxLen = 9223372036854775807 := (by decide); omega
  clear hc hz
  go_enter Tryz.func55, Tryz.ntmps55
  go_wp2_with (at_builtin; refine wpList_append_own _ rfl _ _ 32 rfl w.heap.size 79 i0 (.agg (#[.string ⟨#[]⟩] ++ VT.no.c)) 6 96 Tryz.underlying32 hi hz0 hz1 hz2 (by kernel_rfl) (by decide) _ _ _ rfl (World.ownsRow_made w #[] 0 (Nat.le_refl _) (Nat.zero_le _) (by simp)) ad n c news rfl hl ?qc2 h1 ?qc4 ?qc5 ?qc6 ?_)
  case qc2 => exact fun j u hj => Lib.cell?_alloc_some _ (HC.out j u hj)
  case qc4 => rw [Nat.zero_add]; exact hm
  case qc5 => rw [Nat.zero_add]; exact hn
  case qc6 => simp
  intro v' w1 hown hgrow hnil
  go_wp2
  go_ret
  refine ⟨v', rfl, by simpa using hown, ?_, ?_⟩
  · exact hnil
  · exact ((Below.refl _ w).alloc (Nat.le_refl _) _).grown hgrow (by simp) (by intro k hk; simp [Value.ownBlock] at hk; omega)
end Go.Proofs.YteplcnpmdjdlkaaGreatDoor
namespace Go.Proofs.YteplcnpmdjdlkaaGreatDoor
open Go.RowKit
set_option linter.unusedVariables false
set_option linter.unusedSimpArgs false
namespace VT
/-- No block of the one is a block of the other. -/
def Apart (x y : VT) : Prop := ∃ P : Nat → Prop, At P x ∧ At (fun b => ¬ P b) y
theorem Apart.symm {x y : VT} (h : Apart x y) : Apart y x := by
  obtain ⟨P, h1, h2⟩ := h
  exact ⟨fun b => ¬ P b, h2, h1.imp fun b hb => fun h => h hb⟩
theorem apart_at {x y : VT} {c : Nat} (h1 : At (fun b => b < c) x) (h2 : At (fun b => c ≤ b) y) : Apart x y := ⟨fun b => b < c, h1, h2.imp fun b hb => by omega⟩
inductive Free (W : World) : VT → Prop
  | mk {t : VT} (rl : 0 < t.ln → ∃ cur, W.heap[t.lb]? = some (.cells cur 34 (0, 0))) (rm : 0 < t.mn → ∃ cur, W.heap[t.mb]? = some (.cells cur 79 (0, 0))) (no : 0 < t.ln → 0 < t.mn → t.lb ≠ t.mb)
    (hl : ∀ i, i < t.ln → Free W (t.lt i)) (hm : ∀ i, i < t.mn → Free W (t.mt i)) (ll : ∀ i j, i < j → j < t.ln → Apart (t.lt i) (t.lt j)) (mm : ∀ i j, i < j → j < t.mn → Apart (t.mt i) (t.mt j)) (lm : ∀ i j, i < t.ln → j < t.mn → Apart (t.lt i) (t.mt j))
    (ol : ∀ i, i < t.ln → At (fun b => (0 < t.ln → b ≠ t.lb) ∧ (0 < t.mn → b ≠ t.mb)) (t.lt i)) (om : ∀ i, i < t.mn → At (fun b => (0 < t.ln → b ≠ t.lb) ∧ (0 < t.mn → b ≠ t.mb)) (t.mt i)) : Free W t
/-- What a node says of itself. -/
structure FreeH (W : World) (t : VT) : Prop where
  rl : 0 < t.ln → ∃ cur, W.heap[t.lb]? = some (.cells cur 34 (0, 0))
  rm : 0 < t.mn → ∃ cur, W.heap[t.mb]? = some (.cells cur 79 (0, 0))
  no : 0 < t.ln → 0 < t.mn → t.lb ≠ t.mb
  hl : ∀ i, i < t.ln → Free W (t.lt i)
  hm : ∀ i, i < t.mn → Free W (t.mt i)
  ll : ∀ i j, i < j → j < t.ln → Apart (t.lt i) (t.lt j)
  mm : ∀ i j, i < j → j < t.mn → Apart (t.mt i) (t.mt j)
  lm : ∀ i j, i < t.ln → j < t.mn → Apart (t.lt i) (t.mt j)
  ol : ∀ i, i < t.ln → At (fun b => (0 < t.ln → b ≠ t.lb) ∧ (0 < t.mn → b ≠ t.mb)) (t.lt i)
  om : ∀ i, i < t.mn → At (fun b => (0 < t.ln → b ≠ t.lb) ∧ (0 < t.mn → b ≠ t.mb)) (t.mt i)
theorem Free.h {W : World} {t : VT} (h : Free W t) : FreeH W t := by
  cases h with
  | mk rl rm no hl hm ll mm lm ol om => exact ⟨rl, rm, no, hl, hm, ll, mm, lm, ol, om⟩
theorem Free.keep {W W' : World} {t : VT} {P : Nat → Prop} (h : Free W t) (ha : At P t) (hk : ∀ b, P b → W'.heap[b]? = W.heap[b]?) : Free W' t := by
  induction h with
  | mk rl rm no hl hm ll mm lm ol om ihl ihm =>
    refine .mk (fun hn => ?_) (fun hn => ?_) no (fun i hi => ihl i hi (ha.l i hi)) (fun i hi => ihm i hi (ha.m i hi)) ll mm lm ol om
    · rw [hk _ (ha.bl hn)]; exact rl hn
    · rw [hk _ (ha.bm hn)]; exact rm hn
theorem no_free (W : World) : Free W .no := .mk (fun h => absurd h (Nat.lt_irrefl 0)) (fun h => absurd h (Nat.lt_irrefl 0)) (fun h => absurd h (Nat.lt_irrefl 0)) (fun i hi => absurd hi (Nat.not_lt_zero i)) (fun i hi => absurd hi (Nat.not_lt_zero i)) (fun i j _ hj => absurd hj (Nat.not_lt_zero j)) (fun i j _ hj => absurd hj (Nat.not_lt_zero j)) (fun i j hi _ => absurd hi (Nat.not_lt_zero i)) (fun i hi => absurd hi (Nat.not_lt_zero i)) (fun i hi => absurd hi (Nat.not_lt_zero i))
end VT
end Go.Proofs.YteplcnpmdjdlkaaGreatDoor
