/-
  slices.Clone at values and pairs: a row of the call's own with the same cells. Condition: no longer than a machine's memory.
-/
import Derived.Test.YtcpmehppfccihaaGreatDoorJ8
import Derived.Laws.AppendOwn
import Derived.Lib.LazyBuf
namespace Go.Proofs.YtcpmehppfccihaaGreatDoor
open Go.RowKit
set_option linter.unusedVariables false
set_option linter.unusedSimpArgs false
set_option linter.unusedSectionVars false
/-- Rows of sz cells each, one behind the other. -/
def flatL (F : Nat → List Value) (n : Nat) : List Value := (List.range n).flatMap F
theorem flatL_succ (F : Nat → List Value) (n : Nat) : flatL F (n + 1) = flatL F n ++ F n := by unfold flatL; rw [List.range_succ, List.flatMap_append]; simp
theorem flatL_len (F : Nat → List Value) (sz : Nat) (hF : ∀ i, (F i).length = sz) (n : Nat) : (flatL F n).length = n * sz := by
  induction n with
  | zero => simp [flatL]
  | succ n ih => rw [flatL_succ, List.length_append, ih, hF]; rw [Nat.add_mul]; omega
theorem flatL_get (F : Nat → List Value) (sz : Nat) (hF : ∀ i, (F i).length = sz) (n i k : Nat) (hi : i < n) (hk : k < sz) : (flatL F n)[i * sz + k]? = (F i)[k]? := by
  induction n with
  | zero => omega
  | succ n ih =>
    rw [flatL_succ]
    have hl := flatL_len F sz hF n
    by_cases h : i < n
    · have h2 : i * sz + k < n * sz := by
        have : (i + 1) * sz ≤ n * sz := Nat.mul_le_mul_right _ h
        rw [Nat.add_mul] at this
        omega
      rw [List.getElem?_append_left (by omega)]
      exact ih h
    · obtain rfl : i = n := by omega
      rw [List.getElem?_append_right (by omega), hl]
      congr 1
      omega
theorem flatL_at (F : Nat → List Value) (sz : Nat) (hF : ∀ i, (F i).length = sz) (h0 : 0 < sz) (n j : Nat) (u : Value) (h : (flatL F n)[j]? = some u) : j / sz < n ∧ (F (j / sz))[j % sz]? = some u := by
  have hj := (List.getElem?_eq_some_iff.1 h).1
  rw [flatL_len F sz hF] at hj
  have hi : j / sz < n := Nat.div_lt_of_lt_mul (by rw [Nat.mul_comm]; exact hj)
  have hk : j % sz < sz := Nat.mod_lt _ h0
  have e : j / sz * sz + j % sz = j := by rw [Nat.mul_comm]; exact Nat.div_add_mod j sz
  rw [← flatL_get F sz hF n (j / sz) (j % sz) hi hk, e]
  exact ⟨hi, h⟩
theorem flatL_one (F : Nat → List Value) (n : Nat) (h1 : ∀ i, ∀ u ∈ F i, u.oneCell' = true) : ∀ u ∈ flatL F n, u.oneCell' = true := by
  intro u hu
  unfold flatL at hu
  obtain ⟨i, _, hi⟩ := List.mem_flatMap.1 hu
  exact h1 i u hi
def valL (t : VT) (i : Nat) : List Value := (t.lt i).c.toList
def pairL (t : VT) (i : Nat) : List Value := (t.pc i).toList
theorem valL_len (t : VT) (i : Nat) : (valL t i).length = 5 := rfl
theorem pairL_len (t : VT) (i : Nat) : (pairL t i).length = 6 := rfl
theorem infoV : (Tryz.prog.info? 27).map (fun i => (i.zero, i.size, i.bytes)) = some (some (.agg VT.no.c), 5, 80) := by kernel_rfl
theorem infoP : (Tryz.prog.info? 34).map (fun i => (i.zero, i.size, i.bytes)) = some (some (.agg (#[.string ⟨#[]⟩] ++ VT.no.c)), 6, 96) := by kernel_rfl
theorem add_row (b o j : Nat) : (⟨b, o, none⟩ : Addr).add j = ⟨b, o + j, none⟩ := by unfold Addr.add; split <;> simp_all
set_option maxRecDepth 100000 in
theorem cloneV_nil (n c : Nat) (w : World) : Calls Tryz.prog 57 #[.slice none n c] w fun e w' => e = .returned (.slice none 0 0) ∧ Below w.heap.size w w' := by
  have q := fun (w : World) (a : Option Addr) (n c : Nat) => Lib.run_eql_slice_nil (P := Tryz.prog) w 24 27 a n c 0 0 Tryz.underlying24
  go_enter Tryz.func57, Tryz.ntmps57
  go_wp2
  go_ret
  exact ⟨rfl, Below.refl _ _⟩
set_option maxHeartbeats 1000000 in
set_option maxRecDepth 100000 in
theorem cloneV_some (ad : Addr) (n c : Nat) (news : List Value) (w : World) (hl : news.length = n * 5) (hn : n * 80 ≤ 140737488355328) (hc : ∀ j u, news[j]? = some u → w.cell? (ad.add j) = some u) (h1 : ∀ u ∈ news, u.oneCell' = true) :
    Calls Tryz.prog 57 #[.slice (some ad) n c] w fun e w' => ∃ v', e = .returned v' ∧ w'.ownsRow w.heap.size 27 5 v' n news ∧ v' ≠ .slice none 0 0 ∧ Below w.heap.size w w' := by
  have q := fun (w : World) (a : Option Addr) (n c : Nat) => Lib.run_eql_slice_nil (P := Tryz.prog) w 24 27 a n c 0 0 Tryz.underlying24
  obtain ⟨i0, hi, hz⟩ := Option.map_eq_some_iff.1 infoV
  have hz0 : i0.zero = some (.agg VT.no.c) := congrArg Prod.fst hz
  have hz1 : i0.size = 5 := congrArg (fun x => x.2.1) hz
  have hz2 : i0.bytes = 80 := congrArg (fun x => x.2.2) hz
  have HC := Lib.hid hc
  have hm : n ≤ maxLen := by have : maxLen = 9223372036854775807 := (by decide); omega
  clear hc hz
  go_enter Tryz.func57, Tryz.ntmps57
  go_wp2_with (at_builtin; refine wpList_append_own _ rfl _ _ 24 rfl w.heap.size 27 i0 (.agg VT.no.c) 5 80 Tryz.underlying24 hi hz0 hz1 hz2 (by kernel_rfl) (by decide) _ _ _ rfl (World.ownsRow_made w #[] 0 (Nat.le_refl _) (Nat.zero_le _) (by simp)) ad n c news rfl hl ?qc2 h1 ?qc4 ?qc5 ?qc6 ?_)
  case qc2 => exact fun j u hj => Lib.cell?_alloc_some _ (HC.out j u hj)
  case qc4 => rw [Nat.zero_add]; exact hm
  case qc5 => rw [Nat.zero_add]; exact hn
  case qc6 => simp
  intro v' w1 hown hgrow hnil
  go_wp2
  go_ret
  refine ⟨v', rfl, by simpa using hown, ?_, ?_⟩
  · exact hnil
  · exact ((Below.refl _ w).alloc (Nat.le_refl _) _).grown hgrow (by simp) (by intro k hk; simp [Value.ownBlock] at hk; omega)
set_option maxRecDepth 100000 in
theorem cloneP_nil (n c : Nat) (w : World) : Calls Tryz.prog 41 #[.slice none n c] w fun e w' => e = .returned (.slice none 0 0) ∧ Below w.heap.size w w' := by
  have q := fun (w : World) (a : Option Addr) (n c : Nat) => Lib.run_eql_slice_nil (P := Tryz.prog) w 25 34 a n c 0 0 Tryz.underlying25
  go_enter Tryz.func41, Tryz.ntmps41
  go_wp2
  go_ret
  exact ⟨rfl, Below.refl _ _⟩
set_option maxHeartbeats 1000000 in
set_option maxRecDepth 100000 in
theorem cloneP_some (ad : Addr) (n c : Nat) (news : List Value) (w : World) (hl : news.length = n * 6) (hn : n * 96 ≤ 140737488355328) (hc : ∀ j u, news[j]? = some u → w.cell? (ad.add j) = some u) (h1 : ∀ u ∈ news, u.oneCell' = true) :
    Calls Tryz.prog 41 #[.slice (some ad) n c] w fun e w' => ∃ v', e = .returned v' ∧ w'.ownsRow w.heap.size 34 6 v' n news ∧ v' ≠ .slice none 0 0 ∧ Below w.heap.size w w' := by
  have q := fun (w : World) (a : Option Addr) (n c : Nat) => Lib.run_eql_slice_nil (P := Tryz.prog) w 25 34 a n c 0 0 Tryz.underlying25
  obtain ⟨i0, hi, hz⟩ := Option.map_eq_some_iff.1 infoP
  have hz0 : i0.zero = some (.agg (#[.string ⟨#[]⟩] ++ VT.no.c)) := congrArg Prod.fst hz
  have hz1 : i0.size = 6 := congrArg (fun x => x.2.1) hz
  have hz2 : i0.bytes = 96 := congrArg (fun x => x.2.2) hz
  have HC := Lib.hid hc
  have hm : n ≤ maxLen := by have : maxLen = 9223372036854775807 := (by decide); omega
  clear hc hz
  go_enter Tryz.func41, Tryz.ntmps41
  go_wp2_with (at_builtin; refine wpList_append_own _ rfl _ _ 25 rfl w.heap.size 34 i0 (.agg (#[.string ⟨#[]⟩] ++ VT.no.c)) 6 96 Tryz.underlying25 hi hz0 hz1 hz2 (by kernel_rfl) (by decide) _ _ _ rfl (World.ownsRow_made w #[] 0 (Nat.le_refl _) (Nat.zero_le _) (by simp)) ad n c news rfl hl ?qc2 h1 ?qc4 ?qc5 ?qc6 ?_)
  case qc2 => exact fun j u hj => Lib.cell?_alloc_some _ (HC.out j u hj)
  case qc4 => rw [Nat.zero_add]; exact hm
  case qc5 => rw [Nat.zero_add]; exact hn
  case qc6 => simp
  intro v' w1 hown hgrow hnil
  go_wp2
  go_ret
  refine ⟨v', rfl, by simpa using hown, ?_, ?_⟩
  · exact hnil
  · exact ((Below.refl _ w).alloc (Nat.le_refl _) _).grown hgrow (by simp) (by intro k hk; simp [Value.ownBlock] at hk; omega)
end Go.Proofs.YtcpmehppfccihaaGreatDoor
