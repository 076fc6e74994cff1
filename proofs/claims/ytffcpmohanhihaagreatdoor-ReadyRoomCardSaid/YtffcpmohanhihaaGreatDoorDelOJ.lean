/-
  slices.Delete at rows of operations, one taken out. Condition: the row is one's own.
-/
import Derived.Test.YtffcpmohanhihaaGreatDoorInsOJ
namespace Go.Proofs.YtffcpmohanhihaaGreatDoor
open Go.RowKit Go.Sort
set_option linter.unusedVariables false
set_option linter.unusedSimpArgs false
set_option linter.unusedSectionVars false
section
variable {P : Program} {ops : Array Oper} {rest : List Oper} {o : Oper} {act : Act} {w : World} {Q : Exit → Act → World → Prop}
theorem clear_arm (hgd : o.guard = none) (x : Operand) (t elem : TypeId) (ho : o.op = .call { callee := .builtin .clear, args := #[x], argTypes := #[t] }) (size g off n cap : Nat) (cur : Array Value) (ty : TypeId) (z : Value)
    (hx : act.eval x = .slice (some ⟨g, off, none⟩) (n + 1) cap) (hu : P.underlying t = some (.slice elem)) (hz : (zeroValue elem).run P w = .ok z w) (hzs : z.cells.size = size) (hz1 : ∀ v ∈ z.cells.toList, v.oneCell' = true) (h0 : 0 < size)
    (hg : w.heap[g]? = some (.cells cur ty (0, 0))) (hfit : off + (n + 1) * size ≤ cur.size)
    (h : ∀ zs w', zs.length = (n + 1) * size → w'.heap[g]? = some (.cells (cur.toList.take off ++ zs ++ cur.toList.drop (off + zs.length)).toArray ty (0, 0)) → (∀ k, k ≠ g → w'.heap[k]? = w.heap[k]?) → Below g w w' → w'.heap.size = w.heap.size → wpList P ops Q rest (act.put o.dst (.tuple #[])) w') : wpList P ops Q (o :: rest) act w :=
  wpList_plain hgd fun K hK => by
    have hl : (Builtin.zeroCells z.cells (n + 1)).toList.length = (n + 1) * size := by rw [Array.length_toList, zc_size, hzs]
    have h1 : ∀ v ∈ (Builtin.zeroCells z.cells (n + 1)).toList, v.oneCell' = true := by
      intro v hv
      rw [Array.mem_toList_iff] at hv
      unfold Builtin.zeroCells at hv
      obtain ⟨i, _, rfl⟩ := Array.mem_map.1 hv
      have hlt : i % z.cells.size < z.cells.size := Nat.mod_lt _ (by omega)
      rw [getElem!_pos z.cells _ hlt]
      exact hz1 _ (Array.mem_toList_iff.2 (Array.getElem_mem hlt))
    have hst := run_storeCells_at P g off ty (Builtin.zeroCells z.cells (n + 1)).toList 0 cur w hg (by rw [hl]; simpa using hfit) h1
    simp only [Nat.add_zero] at hst
    have hr : (Builtin.clear_ #[t] o.type #[.slice (some ⟨g, off, none⟩) (n + 1) cap]).run P w = .ok (.tuple #[]) (w.setRow g (cur.toList.take off ++ (Builtin.zeroCells z.cells (n + 1)).toList ++ cur.toList.drop (off + (Builtin.zeroCells z.cells (n + 1)).toList.length)).toArray) := by
      simp [Builtin.clear_, run_underlying hu, hz, hst, Result.andThen]
    unfold Oper.wp execOp
    simp only [ho, resolve, invoke, builtin, Sem.run_bind, Sem.run_pure, Result.andThen_ok, List.map_toArray, List.map_cons, List.map_nil, hx, hr]
    exact hK _ _ (h _ _ hl (setRow_heap _ _ _ _ _ _ hg) (fun k hk => setRow_other _ _ _ _ (by omega)) ⟨rfl, rfl, rfl, by simp, fun k hk => setRow_other _ _ _ _ (by omega)⟩ (by simp))
end
section
variable {P : Program} {ops : Array Oper} {rest : List Oper} {o : Oper} {act : Act} {w : World} {Q : Exit → Act → World → Prop}
/-- An append where there is room; what comes is read ahead of the writing. -/
theorem room_arm (hgd : o.guard = none) (s x : Operand) (t e : TypeId) (ho : o.op = .call { callee := .builtin .append, args := #[s, x], argTypes := #[t, t] }) (size : Nat) (ht : P.underlying t = some (.slice e)) (hi : (P.info? e).map (·.size) = some size)
    (g sLen sCap : Nat) (cur : Array Value) (hg : w.heap[g]? = some (.cells cur e (0, 0))) (a : Addr) (m c : Nat) (news : List Value) (hs : act.eval s = .slice (some ⟨g, 0, none⟩) sLen sCap) (hx : act.eval x = .slice (some a) m c) (hl : news.length = m * size) (hnews : ∀ j u, news[j]? = some u → w.cell? (a.add j) = some u) (h1 : ∀ u ∈ news, u.oneCell' = true)
    (hroom : sLen + m ≤ sCap) (hfit : sLen * size + news.length ≤ cur.size)
    (h : ∀ w', w'.heap[g]? = some (.cells (cur.toList.take (sLen * size) ++ news ++ cur.toList.drop (sLen * size + news.length)).toArray e (0, 0)) → (∀ k, k ≠ g → w'.heap[k]? = w.heap[k]?) → Below g w w' → w'.heap.size = w.heap.size → wpList P ops Q rest (act.put o.dst (.slice (some ⟨g, 0, none⟩) (sLen + m) sCap)) w') : wpList P ops Q (o :: rest) act w :=
  wpList_plain hgd fun K hK => by
    obtain ⟨i, hq, hsz⟩ := Option.map_eq_some_iff.1 hi
    subst hsz
    have hr := run_append_room (P := P) w t o.type e i ht hq g sLen sCap cur hg a m c news hl hnews h1 hroom hfit
    unfold Oper.wp execOp
    simp only [ho, resolve, invoke, builtin, Sem.run_bind, Sem.run_pure, Result.andThen_ok, List.map_toArray, List.map_cons, List.map_nil, hs, hx, hr]
    exact hK _ _ (h _ (setRow_heap _ _ _ _ _ _ hg) (fun k hk => setRow_other _ _ _ _ (by omega)) ⟨rfl, rfl, rfl, by simp, fun k hk => setRow_other _ _ _ _ (by omega)⟩ (by simp))
end
theorem del_list {α : Type} (F zs cur : List α) (a k N : Nat) (hN : F.length = N) (ha : a + k ≤ N) (hz : zs.length = k) (hcur : cur.take N = F) (hroom : N ≤ cur.length) (c1 : List α) (h1 : c1 = cur.take a ++ F.drop (a + k) ++ cur.drop (a + (F.drop (a + k)).length)) :
    (c1.take (N - k) ++ zs ++ c1.drop (N - k + zs.length)).take (N - k) = F.take a ++ F.drop (a + k) ∧ (c1.take (N - k) ++ zs ++ c1.drop (N - k + zs.length)).length = cur.length ∧ c1.length = cur.length := by
  have l1 : c1.length = cur.length := by
    rw [h1]; simp only [List.length_append, List.length_take, List.length_drop]; omega
  have e1 : c1.take (N - k) = F.take a ++ F.drop (a + k) := by
    rw [h1, List.take_left' (by simp only [List.length_append, List.length_take, List.length_drop]; omega), ← hcur, List.take_take, Nat.min_eq_left (by omega)]
  refine ⟨?_, ?_, l1⟩
  · rw [List.append_assoc, List.take_left' (by rw [List.length_take, l1]; omega), e1]
  · simp only [List.length_append, List.length_take, List.length_drop, l1]; omega
def delO (i : Nat) (L : List OT) : List OT := L.take i ++ L.drop (i + 1)
theorem delO_ok {L : List OT} {i : Nat} (h : ∀ x ∈ L, OT.Ok x) : ∀ x ∈ delO i L, OT.Ok x := by
  intro x hx
  rcases List.mem_append.1 hx with hx | hx
  · exact h x (List.mem_of_mem_take hx)
  · exact h x (List.mem_of_mem_drop hx)
theorem delO_flat {L : List OT} (h : ∀ x ∈ L, OT.Ok x) (i : Nat) : flatO (delO i L) = (flatO L).take (i * 79) ++ (flatO L).drop (i * 79 + 79) := by
  unfold delO
  rw [flatO_append, (flatO_take h i).1, (flatO_take h (i + 1)).2, Nat.succ_mul]
theorem delO_len {L : List OT} {i : Nat} (h : i < L.length) : (delO i L).length + 1 = L.length := by
  unfold delO
  rw [List.length_append, List.length_take, List.length_drop]; omega
theorem zeroO_one : ∀ v ∈ (Value.agg zeroO.c).cells.toList, v.oneCell' = true := fun v hv => (Array.all_eq_true_iff_forall_mem.1 (op_one (o := zeroO) rfl rfl)) v (Array.mem_toList_iff.1 hv)
section
variable (A : Option Addr) (c : Nat) (L : List OT) (w0 w : World) (hR : RowW w0 w (.slice A L.length c) L) (hn : L.length ≤ 1000000)
include hR hn
set_option maxRecDepth 100000 in
set_option maxHeartbeats 4000000 in
theorem delOp_any (i : Nat) (hi : i < L.length) : Calls Tryz.prog 50 #[.slice A L.length c, .int .i64 i, .int .i64 ((i : Int) + 1)] w fun e w' => ∃ g, (Value.slice A L.length c).ownBlock = some g ∧ e = .returned (.slice A (L.length - 1) c) ∧ RowW w0 w' (.slice A (L.length - 1) c) (delO i L) ∧ w.grownBy w' (some g) := by
  have HOK := Lib.hid hR.ok
  rcases hR.own.2 with ⟨h1, hn0⟩ | ⟨g, cap, cur, h1, hbg, hg, hnc, hcm, hcs, htk⟩
  · omega
  injection h1 with h1 _ h3
  subst h1 h3
  have HG := Lib.hid hg
  have HBG := Lib.hid hbg
  have HTK := Lib.hid htk
  have HCS := Lib.hid hcs
  have hFl := Lib.hid (flatO_len hR.ok)
  have hc63 : c ≤ 9223372036854775807 := hcm
  have hw1 : IntKind.i64.wrap ((i : Int) + 1) = (i : Int) + 1 := by rw [IntKind.wrap_i64]; omega
  have hz1 : ¬ ((i : Int) = (i : Int) + 1) := by omega
  have hb1 : (0 : Int) ≤ (i : Int) + 1 := by omega
  have htn : ((i : Int) + 1).toNat = i + 1 := by omega
  have hin : i ≤ L.length := by omega
  have hin1 : i + 1 ≤ L.length := by omega
  have hi2 : (i : Int) + 1 ≤ (L.length : Int) := by omega
  have hi3 : (i : Int) ≤ (i : Int) + 1 := by omega
  have hi4 : (i : Int) ≤ (c : Int) := by omega
  have hi5 : (L.length : Int) ≤ (c : Int) := by omega
  clear hR hg hbg hcs htk hcm
  go_enter Tryz.func50, Tryz.ntmps50
  go_upto_region 5 with go_skip
  have hik : i + (L.length - (i + 1)) = L.length - 1 := by omega
  have hdl : ((flatO L).drop (i * 79 + 79)).length = (L.length - (i + 1)) * 79 := by rw [List.length_drop, hFl.out]; omega
  have h1F : ∀ v ∈ (flatO L).drop (i * 79 + 79), v.oneCell' = true := fun v hv => flatO_one HOK.out v (List.mem_of_mem_drop hv)
  have hf1 : i * 79 + ((flatO L).drop (i * 79 + 79)).length ≤ cur.size := by rw [hdl, HCS.out]; omega
  have h11 : L.length - (L.length - 1) = 1 := by omega
  have hcl : cur.toList.length = c * 79 := by rw [Array.length_toList, HCS.out]
  have hlo : ((L.length - 1 : Nat) : Int) ≤ (L.length : Int) := by omega
  have hno : ¬ (c = L.length - 1) := by omega
  by_cases hcc : c = i + 1
  · subst hcc
    have hm0 : L.length - (i + 1) = 0 := by omega
    rw [hm0] at hdl hik
    refine wp_region_tail_below 6 (by kernel_rfl) (by kernel_rfl) (by kernel_rfl) (by decide) (by kernel_rfl) ?_; simp only [List.take_succ_cons, List.take_zero, List.drop_succ_cons, List.drop_zero]
    repeat (first | go_big_quiet_skip | (quiet_step (fail)))
    refine wpQuiet_nil ?_; rintro wq ⟨⟨dq, osq⟩, rfl⟩; have hb := below_regrown w dq osq; generalize Go.Sort.grow (redrawn w dq) osq = wq at *
    have HB := Lib.hid hb
    have g0 := (hb.block g (Array.getElem?_eq_some_iff.1 HG.out).1).trans HG.out
    have hsrc : ∀ j u, ((flatO L).drop (i * 79 + 79))[j]? = some u → wq.cell? ((⟨g, 0, none⟩ : Addr).add j) = some u := fun j u hu => by (have hz : (flatO L).drop (i * 79 + 79) = [] := List.drop_eq_nil_of_le (by rw [hFl.out]; omega); rw [hz] at hu; cases hu)
    refine room_arm rfl (.tmp 22) (.tmp 25) 49 40 rfl 79 Tryz.underlying49 infoO79 g i (i + 1) cur g0 ⟨g, 0, none⟩ 0 0 ((flatO L).drop (i * 79 + 79)) rfl rfl hdl hsrc h1F (by omega) hf1 ?_
    rw [hik]
    intro w1 hg1 ho1 hb1 hs1
    have HS1 := Lib.hid (And.intro ho1 hb1)
    obtain ⟨c1, hc1⟩ : ∃ c1 : List Value, c1 = cur.toList.take (i * 79) ++ (flatO L).drop (i * 79 + 79) ++ cur.toList.drop (i * 79 + ((flatO L).drop (i * 79 + 79)).length) := ⟨_, rfl⟩
    rw [← hc1] at hg1
    have hl1 : c1.toArray.size = cur.size := by
      rw [List.size_toArray, hc1]; simp only [List.length_append, List.length_take, List.length_drop, Array.length_toList, hFl.out, HCS.out]; omega
    have hf2 : (L.length - 1) * 79 + (0 + 1) * 79 ≤ c1.toArray.size := by rw [hl1, HCS.out]; omega
    have HC1 := Lib.hid hc1
    have h1z := zeroO_one
    clear hsrc g0 ho1 hb1 hs1 hb hc1 hdl h1F hf1
    go_wp2_with (first | ((with_reducible refine gate_op (op := .call { callee := .builtin .clear, args := #[.tmp 31], argTypes := #[49] }) rfl ?_); refine clear_arm rfl (.tmp 31) 49 40 rfl 79 g ((L.length - 1) * 79) 0 _ c1.toArray 40 (.agg zeroO.c) rfl Tryz.underlying49 (op_zero _) rfl h1z (by decide) hg1 hf2 ?_; intro zs w2 hzl hg2 ho2 hb2 hs2) | go_skip)
    go_ret
    have hgr : w.grownBy w2 (some g) := ⟨hb2.os.trans (HS1.out.2.os.trans HB.out.os), hb2.tape.trans (HS1.out.2.tape.trans HB.out.tape), hb2.output.trans (HS1.out.2.output.trans HB.out.output), Nat.le_trans HB.out.size (Nat.le_trans HS1.out.2.size hb2.size), fun k hk hkg => by
      have hkg' : k ≠ g := fun e => hkg (by rw [e])
      rw [ho2 k hkg', HS1.out.1 k hkg', HB.out.block k hk]⟩
    have hI := del_list (flatO L) zs cur.toList (i * 79) 79 (L.length * 79) hFl.out (by omega) (by rw [hzl]) HTK.out (by rw [hcl]; omega) c1 HC1.out
    rw [show L.length * 79 - 79 = (L.length - 1) * 79 by omega] at hI
    refine ⟨g, rfl, rfl, rowW_of (by have := delO_len hi; omega) ⟨?_, .inr ⟨g, (i + 1), _, rfl, HBG.out, hg2, by omega, hc63, ?_, ?_⟩⟩ (delO_ok HOK.out), hgr⟩
    · rw [flatO_len (delO_ok HOK.out)]; have := delO_len hi; congr 1; omega
    · rw [List.size_toArray, hI.2.1, hcl]
    · rw [delO_flat HOK.out]; exact hI.1
  · refine wp_region_tail_below 6 (by kernel_rfl) (by kernel_rfl) (by kernel_rfl) (by decide) (by kernel_rfl) ?_; simp only [List.take_succ_cons, List.take_zero, List.drop_succ_cons, List.drop_zero]
    repeat (first | go_big_quiet_skip | (quiet_step (fail)))
    refine wpQuiet_nil ?_; rintro wq ⟨⟨dq, osq⟩, rfl⟩; have hb := below_regrown w dq osq; generalize Go.Sort.grow (redrawn w dq) osq = wq at *
    have HB := Lib.hid hb
    have g0 := (hb.block g (Array.getElem?_eq_some_iff.1 HG.out).1).trans HG.out
    have hsrc : ∀ j u, ((flatO L).drop (i * 79 + 79))[j]? = some u → wq.cell? ((⟨g, ((i + 1) * 79), none⟩ : Addr).add j) = some u := fun j u hu => by (rw [add_at, cell_of_row _ _ _ _ _ _ g0, ← Array.getElem?_toList]; rw [List.getElem?_drop, ← HTK.out, List.getElem?_take] at hu; split at hu; (rw [show (i + 1) * 79 = i * 79 + 79 by omega]; exact hu); cases hu)
    refine room_arm rfl (.tmp 22) (.tmp 25) 49 40 rfl 79 Tryz.underlying49 infoO79 g i c cur g0 ⟨g, ((i + 1) * 79), none⟩ (L.length - (i + 1)) (c - (i + 1)) ((flatO L).drop (i * 79 + 79)) rfl rfl hdl hsrc h1F (by omega) hf1 ?_
    rw [hik]
    intro w1 hg1 ho1 hb1 hs1
    have HS1 := Lib.hid (And.intro ho1 hb1)
    obtain ⟨c1, hc1⟩ : ∃ c1 : List Value, c1 = cur.toList.take (i * 79) ++ (flatO L).drop (i * 79 + 79) ++ cur.toList.drop (i * 79 + ((flatO L).drop (i * 79 + 79)).length) := ⟨_, rfl⟩
    rw [← hc1] at hg1
    have hl1 : c1.toArray.size = cur.size := by
      rw [List.size_toArray, hc1]; simp only [List.length_append, List.length_take, List.length_drop, Array.length_toList, hFl.out, HCS.out]; omega
    have hf2 : (L.length - 1) * 79 + (0 + 1) * 79 ≤ c1.toArray.size := by rw [hl1, HCS.out]; omega
    have HC1 := Lib.hid hc1
    have h1z := zeroO_one
    clear hsrc g0 ho1 hb1 hs1 hb hc1 hdl h1F hf1
    go_wp2_with (first | ((with_reducible refine gate_op (op := .call { callee := .builtin .clear, args := #[.tmp 31], argTypes := #[49] }) rfl ?_); refine clear_arm rfl (.tmp 31) 49 40 rfl 79 g ((L.length - 1) * 79) 0 _ c1.toArray 40 (.agg zeroO.c) rfl Tryz.underlying49 (op_zero _) rfl h1z (by decide) hg1 hf2 ?_; intro zs w2 hzl hg2 ho2 hb2 hs2) | go_skip)
    go_ret
    have hgr : w.grownBy w2 (some g) := ⟨hb2.os.trans (HS1.out.2.os.trans HB.out.os), hb2.tape.trans (HS1.out.2.tape.trans HB.out.tape), hb2.output.trans (HS1.out.2.output.trans HB.out.output), Nat.le_trans HB.out.size (Nat.le_trans HS1.out.2.size hb2.size), fun k hk hkg => by
      have hkg' : k ≠ g := fun e => hkg (by rw [e])
      rw [ho2 k hkg', HS1.out.1 k hkg', HB.out.block k hk]⟩
    have hI := del_list (flatO L) zs cur.toList (i * 79) 79 (L.length * 79) hFl.out (by omega) (by rw [hzl]) HTK.out (by rw [hcl]; omega) c1 HC1.out
    rw [show L.length * 79 - 79 = (L.length - 1) * 79 by omega] at hI
    refine ⟨g, rfl, rfl, rowW_of (by have := delO_len hi; omega) ⟨?_, .inr ⟨g, c, _, rfl, HBG.out, hg2, by omega, hc63, ?_, ?_⟩⟩ (delO_ok HOK.out), hgr⟩
    · rw [flatO_len (delO_ok HOK.out)]; have := delO_len hi; congr 1; omega
    · rw [List.size_toArray, hI.2.1, hcl]
    · rw [delO_flat HOK.out]; exact hI.1
end
end Go.Proofs.YtffcpmohanhihaaGreatDoor
