/-
  slices.Insert at rows of operations, one put in. Condition: the row is one's own; at most a million.
-/
import Derived.Test.YtffcpmohanhihaaGreatDoorInsRJ
namespace Go.Proofs.YtffcpmohanhihaaGreatDoor
open Go.RowKit Go.Sort
set_option linter.unusedVariables false
set_option linter.unusedSimpArgs false
set_option linter.unusedSectionVars false
theorem infoO79 : (Tryz.prog.info? 40).map (·.size) = some 79 := by kernel_rfl
theorem shape_of {w : World} {b : Nat} {cs : Array Value} {t : TypeId} {fr : Nat × Nat} (h : w.heap[b]? = some (.cells cs t fr)) : w.shape? b = some (t, cs.size) := by
  simp [World.shape?, h]
theorem frozen_none {w : World} {b j : Nat} {cs : Array Value} {t : TypeId} (h : w.heap[b]? = some (.cells cs t (0, 0))) : w.frozen? ⟨b, j, none⟩ = false := by
  simp [World.frozen?, h]
theorem ovl_no (w : World) (vb b off lb cb : Nat) (c1 c2 : Array Value) (t1 t2 : TypeId) (hne : vb ≠ b) (h1 : w.heap[vb]? = some (.cells c1 t1 (0, 0))) (h2 : w.heap[b]? = some (.cells c2 t2 (0, 0))) (hc : c2.size ≠ 0) :
    (callFunc 79 #[.slice (some ⟨vb, 0, none⟩) 1 1, .slice (some ⟨b, off, none⟩) lb cb]).run Tryz.prog w = .ok (.value (.bool false)) w := by
  rw [run_callFunc_extern Tryz.func79 (by kernel_rfl) (by kernel_rfl) (by kernel_rfl) (e := Extern.SlicesOverlaps.overlaps #[49, 49] #[4]) (by kernel_rfl),
    Lib.run_overlaps_apart w 49 4 40 Tryz.underlying49 79 size_op ⟨vb, 0, none⟩ ⟨b, off, none⟩ 1 1 lb cb hne t1 t2 c1.size c2.size (shape_of h1) (shape_of h2) hc (frozen_none h1) (frozen_none h1)]
  rfl
theorem rowW_of {w0 W : World} {v : Value} {M : List OT} {n : Nat} (hn : M.length = n) (h : W.ownsRow w0.heap.size 40 79 v n (flatO M)) (hok : ∀ x ∈ M, OT.Ok x) : RowW w0 W v M := by
  subst hn
  exact ⟨h, hok⟩
section
variable (A : Option Addr) (c : Nat) (L : List OT) (y : OT) (vb : Nat) (w0 w : World) (hR : RowW w0 w (.slice A L.length c) L) (hy : OT.Ok y) (hv : w.heap[vb]? = some (.cells y.o.c 40 (0, 0))) (hne : (Value.slice A L.length c).ownBlock ≠ some vb) (hn : L.length + 1 ≤ 1000000) (hw0 : w0.heap.size ≤ w.heap.size)
include hR hy hv hne hn hw0
set_option maxRecDepth 100000 in
set_option maxHeartbeats 2000000 in
theorem insOp_end : Calls Tryz.prog 49 #[.slice A L.length c, .int .i64 L.length, .slice (some ⟨vb, 0, none⟩) 1 1] w fun e w' => ∃ A' c', e = .returned (.slice A' (L.length + 1) c') ∧ RowW w0 w' (.slice A' (L.length + 1) c') (L ++ [y]) ∧ w.grownBy w' (Value.slice A L.length c).ownBlock ∧ ((Value.slice A' (L.length + 1) c').ownBlock = (Value.slice A L.length c).ownBlock ∨ (Value.slice A' (L.length + 1) c').ownBlock = some w.heap.size) := by
  have HR := Lib.hid hR
  have HY := Lib.hid hy
  have HV := Lib.hid hv
  have HW := Lib.hid hw0
  have HN := Lib.hid hn
  clear hR hy hv hne hw0
  go_enter Tryz.func49, Tryz.ntmps49
  cases A with
  | none =>
    go_wp2_with (first | ((with_reducible refine gate_op (op := .call { callee := .builtin .append, args := #[.tmp 23, .tmp 24], argTypes := #[49, 49] }) rfl ?_); refine apop_arm rfl (.tmp 23) (.tmp 24) rfl y vb rfl rfl HR.out HY.out HV.out HN.out HW.out ?_; intro A8 g8 c8 w8 hR8 hgr hat hO8) | go_skip)
    go_ret
    exact ⟨_, _, rfl, hR8, hgr, hat⟩
  | some ad =>
    go_wp2_with (first | ((with_reducible refine gate_op (op := .call { callee := .builtin .append, args := #[.tmp 23, .tmp 24], argTypes := #[49, 49] }) rfl ?_); refine apop_arm rfl (.tmp 23) (.tmp 24) rfl y vb rfl rfl HR.out HY.out HV.out HN.out HW.out ?_; intro A8 g8 c8 w8 hR8 hgr hat hO8) | go_skip)
    all_goals
      go_ret
      exact ⟨_, _, rfl, hR8, hgr, hat⟩
set_option maxRecDepth 100000 in
set_option maxHeartbeats 4000000 in
theorem insOp_shift (i : Nat) (hi : i < L.length) (hroom : L.length + 1 ≤ c) : Calls Tryz.prog 49 #[.slice A L.length c, .int .i64 i, .slice (some ⟨vb, 0, none⟩) 1 1] w fun e w' => ∃ A' c', e = .returned (.slice A' (L.length + 1) c') ∧ RowW w0 w' (.slice A' (L.length + 1) c') (insO i y L) ∧ w.grownBy w' (Value.slice A L.length c).ownBlock ∧ ((Value.slice A' (L.length + 1) c').ownBlock = (Value.slice A L.length c).ownBlock ∨ (Value.slice A' (L.length + 1) c').ownBlock = some w.heap.size) := by
  have HOK := Lib.hid hR.ok
  rcases hR.own.2 with ⟨h1, hn0⟩ | ⟨g, cap, cur, h1, hbg, hg, hnc, hcm, hcs, htk⟩
  · omega
  injection h1 with h1 _ h3
  subst h1 h3
  have HG := Lib.hid hg
  have HBG := Lib.hid hbg
  have hgv : vb ≠ g := fun e => hne (by rw [e]; rfl)
  have HGV := Lib.hid hgv
  have HY := Lib.hid hy
  have HV := Lib.hid hv
  have HTK := Lib.hid htk
  have HCS := Lib.hid hcs
  have HN := Lib.hid hn
  have hFl := Lib.hid (flatO_len hR.ok)
  have hc63 : c ≤ 9223372036854775807 := hcm
  have hov := fun lb cb => ovl_no w vb g ((i + 1) * 79) lb cb y.o.c cur _ _ hgv hv hg (by rw [hcs]; omega)
  have hz1 : ¬ ((i : Int) = (L.length : Int)) := by omega
  have hw1 : IntKind.i64.wrap ((i : Int) + 1) = (i : Int) + 1 := by rw [IntKind.wrap_i64]; omega
  have hb1 : (0 : Int) ≤ (i : Int) + 1 := by omega
  have htn : ((i : Int) + 1).toNat = i + 1 := by omega
  have hin : i ≤ L.length := by omega
  have hb2 : ¬ (c = i + 1) := by omega
  have hb3 : (i : Int) ≤ (L.length : Int) + 1 := by omega
  have hb4 : ¬ (c = i) := by omega
  have hb5 : ¬ (c : Int) < (L.length : Int) + 1 := by omega
  clear hR hy hv hne hw0 hg hbg hcs htk hcm hnc
  go_enter Tryz.func49, Tryz.ntmps49
  go_wp2_with (simp only [hov])
  refine wp_region_tail_below 8 (by kernel_rfl) (by kernel_rfl) (by kernel_rfl) (by decide) (by kernel_rfl) ?_; simp only [List.take_succ_cons, List.take_zero, List.drop_succ_cons, List.drop_zero]
  repeat (first | go_big_quiet_skip | (quiet_step (fail)))
  refine wpQuiet_nil ?_; rintro wq ⟨⟨dq, osq⟩, rfl⟩; have hb := below_regrown w dq osq; generalize Go.Sort.grow (redrawn w dq) osq = wq at *
  have HB := Lib.hid hb
  have g0 := (hb.block g (Array.getElem?_eq_some_iff.1 HG.out).1).trans HG.out
  have v0 := (hb.block vb (Array.getElem?_eq_some_iff.1 HV.out).1).trans HV.out
  have hcur : ∀ j u, ((flatO L).drop (i * 79))[j]? = some u → wq.cell? ((⟨g, i * 79, none⟩ : Addr).add j) = some u := fun j u hu => by
    rw [add_at, cell_of_row _ _ _ _ _ _ g0, ← Array.getElem?_toList]
    rw [List.getElem?_drop, ← HTK.out, List.getElem?_take] at hu
    split at hu
    · exact hu
    · cases hu
  have hdl : ((flatO L).drop (i * 79)).length = (L.length - i) * 79 := by rw [List.length_drop, hFl.out, Nat.sub_mul]
  have hyl := ok_size HY.out
  have hcl : cur.toList.length = c * 79 := by rw [Array.length_toList, HCS.out]
  have h1F : ∀ v ∈ (flatO L).drop (i * 79), v.oneCell' = true := fun v hv => flatO_one HOK.out v (List.mem_of_mem_drop hv)
  have h1y : ∀ v ∈ y.o.c.toList, v.oneCell' = true := fun v hv => (Array.all_eq_true_iff_forall_mem.1 (ot_one HY.out.vc)) v (Array.mem_toList_iff.1 hv)
  have hm1 : Nat.min (L.length + 1 - i) (L.length - i) = L.length - i := by simp only [Nat.min_def]; split <;> omega
  have hm2 : Nat.min 1 (L.length + 1 - i) = 1 := by simp only [Nat.min_def]; split <;> omega
  have hf1 : (i + 1) * 79 + ((flatO L).drop (i * 79)).length ≤ cur.size := by rw [hdl, HCS.out]; omega
  refine copy_arm rfl (.tmp 73) (.tmp 76) 49 40 rfl 79 g ((i + 1) * 79) _ _ ⟨g, i * 79, none⟩ _ _ (L.length - i) cur 40 ((flatO L).drop (i * 79)) rfl rfl Tryz.underlying49 infoO79 g0 hm1 hdl hcur hf1 h1F ?_
  intro w1 hg1 ho1 hb1 hs1
  obtain ⟨c1, hc1⟩ : ∃ c1 : List Value, c1 = cur.toList.take ((i + 1) * 79) ++ (flatO L).drop (i * 79) ++ cur.toList.drop ((i + 1) * 79 + ((flatO L).drop (i * 79)).length) := ⟨_, rfl⟩
  rw [← hc1] at hg1
  have hI := Lib.hid (ins_place (flatO L) y.o.c.toList cur.toList (i * 79) 79 (L.length * 79) hFl.out (by omega) hyl HTK.out (by rw [hcl]; omega) c1 (by rw [hc1, Nat.succ_mul]))
  have hf2 : i * 79 + y.o.c.toList.length ≤ c1.toArray.size := by rw [hyl, List.size_toArray, hI.out.2.2, hcl]; omega
  have hv1 := (ho1 vb HGV.out).trans v0
  have hcy : ∀ j u, y.o.c.toList[j]? = some u → w1.cell? ((⟨vb, 0, none⟩ : Addr).add j) = some u := fun j u hu => by
    rw [add_at, Nat.zero_add, cell_of_row _ _ _ _ _ _ hv1, ← Array.getElem?_toList]; exact hu
  have HS1 := Lib.hid (And.intro ho1 hb1)
  clear hcur hm1 hdl h1F hf1 g0 v0 ho1 hb1 hs1 hb hc1
  go_wp2_with (first | ((with_reducible refine gate_op (op := .call { callee := .builtin .copy, args := #[.tmp 80, .tmp 81], argTypes := #[49, 49] }) rfl ?_); refine copy_arm rfl (.tmp 80) (.tmp 81) 49 40 rfl 79 g (i * 79) _ _ ⟨vb, 0, none⟩ _ _ 1 c1.toArray 40 y.o.c.toList rfl rfl Tryz.underlying49 infoO79 hg1 hm2 hyl hcy hf2 h1y ?_; intro w2 hg2 ho2 hb2 hs2) | go_skip)
  go_ret
  have hgr : w.grownBy w2 (some g) := ⟨hb2.os.trans (HS1.out.2.os.trans HB.out.os), hb2.tape.trans (HS1.out.2.tape.trans HB.out.tape), hb2.output.trans (HS1.out.2.output.trans HB.out.output), Nat.le_trans HB.out.size (Nat.le_trans HS1.out.2.size hb2.size), fun k hk hkg => by
    have hkg' : k ≠ g := fun e => hkg (by rw [e])
    rw [ho2 k hkg', HS1.out.1 k hkg', HB.out.block k hk]⟩
  refine ⟨_, _, rfl, rowW_of (insO_len hin y) ⟨?_, .inr ⟨g, c, _, rfl, HBG.out, hg2, hroom, hc63, ?_, ?_⟩⟩ (insO_ok HOK.out HY.out), hgr, .inl rfl⟩
  · rw [flatO_len (insO_ok HOK.out HY.out), insO_len hin]
  · rw [List.size_toArray, hI.out.2.1, hcl]
  · rw [insO_flat HOK.out]
    have := hI.out.1
    rw [show (L.length + 1) * 79 = L.length * 79 + 79 by omega]
    exact this
set_option maxRecDepth 100000 in
set_option maxHeartbeats 4000000 in
theorem insOp_grow (i : Nat) (hi : i < L.length) (hroom : c < L.length + 1) : Calls Tryz.prog 49 #[.slice A L.length c, .int .i64 i, .slice (some ⟨vb, 0, none⟩) 1 1] w fun e w' => ∃ A' c', e = .returned (.slice A' (L.length + 1) c') ∧ RowW w0 w' (.slice A' (L.length + 1) c') (insO i y L) ∧ w.grownBy w' (Value.slice A L.length c).ownBlock ∧ ((Value.slice A' (L.length + 1) c').ownBlock = (Value.slice A L.length c).ownBlock ∨ (Value.slice A' (L.length + 1) c').ownBlock = some w.heap.size) := by
  have HOK := Lib.hid hR.ok
  rcases hR.own.2 with ⟨h1, hn0⟩ | ⟨g, cap, cur, h1, hbg, hg, hnc, hcm, hcs, htk⟩
  · omega
  injection h1 with h1 _ h3
  subst h1 h3
  have HG := Lib.hid hg
  have HY := Lib.hid hy
  have HV := Lib.hid hv
  have HTK := Lib.hid htk
  have HW := Lib.hid hw0
  have HN := Lib.hid hn
  have hFl := Lib.hid (flatO_len hR.ok)
  have hc63 : c ≤ 9223372036854775807 := hcm
  obtain ⟨i0, hi0, hz0, hs0, hb0⟩ := info_parts infoO
  have HI0 := Lib.hid (And.intro hi0 (And.intro hz0 (And.intro hs0 hb0)))
  have hz1 : ¬ ((i : Int) = (L.length : Int)) := by omega
  have hw1 : IntKind.i64.wrap ((i : Int) + 1) = (i : Int) + 1 := by rw [IntKind.wrap_i64]; omega
  have hb1 : (0 : Int) ≤ (i : Int) + 1 := by omega
  have htn : ((i : Int) + 1).toNat = i + 1 := by omega
  have hin : i ≤ L.length := by omega
  have hb4 : ¬ (c = i) := by omega
  have hb5 : (c : Int) < (L.length : Int) + 1 := by omega
  have hb6 : (i : Int) ≤ (c : Int) := by omega
  have hb7 : i ≤ c := by omega
  have hkk : (L.length : Int) + 1 - (i : Int) = ((L.length + 1 - i : Nat) : Int) := by omega
  have hik : i + (L.length + 1 - i) = L.length + 1 := by omega
  have hold := Lib.hid (fun (j : Nat) u (hu : ((flatO L).take (i * 79))[j]? = some u) => show w.cell? ⟨g, j, none⟩ = some u by
    rw [cell_of_row _ _ _ _ _ _ HG.out, ← Array.getElem?_toList]
    rw [List.getElem?_take] at hu
    split at hu
    · rw [← HTK.out, List.getElem?_take] at hu
      split at hu
      · exact hu
      · cases hu
    · cases hu)
  have htl := Lib.hid (show ((flatO L).take (i * 79)).length = i * 79 by rw [List.length_take, hFl.out]; omega)
  clear hR hy hv hne hw0 hg hbg hcs htk hcm hnc hi0 hz0 hs0 hb0
  go_enter Tryz.func49, Tryz.ntmps49
  go_upto_region 10 with (first | ((with_reducible refine gate_op (op := .call { callee := .builtin .append, args := #[.tmp 34, .tmp 39], argTypes := #[49, 3] }) rfl ?_); refine growz_arm rfl (.tmp 34) (.tmp 39) 49 3 40 rfl i0 (.agg zeroO.c) 79 680 .i64 Tryz.underlying49 Tryz.underlying3 HI0.out.1 HI0.out.2.1 HI0.out.2.2.1 HI0.out.2.2.2 rfl (by decide) g i c (L.length + 1 - i) _ rfl rfl rfl ((flatO L).take (i * 79)) htl.out hold.out (by omega) (by omega) (by omega) (by omega) ?_; rw [hik]; intro G row wA hbA hgA hsA htA hrA hGn hG63) | go_skip)
  have HA := Lib.hid hbA
  have vA := (hbA.block vb (Array.getElem?_eq_some_iff.1 HV.out).1).trans HV.out
  have gA := (hbA.block g (Array.getElem?_eq_some_iff.1 HG.out).1).trans HG.out
  have hgW : Hid (g ≠ w.heap.size) := Lib.hid (fun e => by have := (Array.getElem?_eq_some_iff.1 HG.out).1; omega)
  have hvW : Hid (vb ≠ w.heap.size) := Lib.hid (fun e => by have := (Array.getElem?_eq_some_iff.1 HV.out).1; omega)
  have hyl := ok_size HY.out
  have hrl : row.toList.length = G * 79 := by rw [Array.length_toList, hrA]
  have h1y : ∀ v ∈ y.o.c.toList, v.oneCell' = true := fun v hv => (Array.all_eq_true_iff_forall_mem.1 (ot_one HY.out.vc)) v (Array.mem_toList_iff.1 hv)
  have h1F : ∀ v ∈ (flatO L).drop (i * 79), v.oneCell' = true := fun v hv => flatO_one HOK.out v (List.mem_of_mem_drop hv)
  have hdl : ((flatO L).drop (i * 79)).length = (L.length - i) * 79 := by rw [List.length_drop, hFl.out, Nat.sub_mul]
  have hm2 : Nat.min 1 (L.length + 1 - i) = 1 := by simp only [Nat.min_def]; split <;> omega
  have hm1 : Nat.min (L.length - i) (L.length - i) = L.length - i := by simp only [Nat.min_def]; split <;> omega
  have hf2 : i * 79 + y.o.c.toList.length ≤ row.size := by rw [hyl, hrA]; omega
  have hcy : ∀ j u, y.o.c.toList[j]? = some u → wA.cell? ((⟨vb, 0, none⟩ : Addr).add j) = some u := fun j u hu => by
    rw [add_at, Nat.zero_add, cell_of_row _ _ _ _ _ _ vA, ← Array.getElem?_toList]; exact hu
  have hGi : ¬ (G = i) := by omega
  have hGim : ¬ (G = i + 1) := by omega
  have hGI : (i : Int) ≤ (G : Int) := by omega
  go_upto_region 11 with (first | ((with_reducible refine gate_op (op := .call { callee := .builtin .copy, args := #[.tmp 43, .tmp 44], argTypes := #[49, 49] }) rfl ?_); refine copy_arm rfl (.tmp 43) (.tmp 44) 49 40 rfl 79 w.heap.size (i * 79) _ _ ⟨vb, 0, none⟩ _ _ 1 row 40 y.o.c.toList rfl rfl Tryz.underlying49 infoO79 hgA hm2 hyl hcy hf2 h1y ?_; intro w1 hg1 ho1 hb1 hs1) | go_skip)
  obtain ⟨c1, hc1⟩ : ∃ c1 : List Value, c1 = row.toList.take (i * 79) ++ y.o.c.toList ++ row.toList.drop (i * 79 + y.o.c.toList.length) := ⟨_, rfl⟩
  rw [← hc1] at hg1
  have hI := Lib.hid (ins_fresh (flatO L) y.o.c.toList row.toList (i * 79) 79 (L.length * 79) hFl.out (by omega) hyl htA (by rw [hrl]; omega) c1 hc1)
  have HS1 := Lib.hid (And.intro ho1 hb1)
  have g1 := (ho1 g hgW.out).trans gA
  clear hc1 hcy hgA ho1 hb1 hs1 hf2 vA gA hbA
  have hcb : ∀ j u, ((flatO L).drop (i * 79))[j]? = some u → w1.cell? ((⟨g, i * 79, none⟩ : Addr).add j) = some u := fun j u hu => by
    rw [add_at, cell_of_row _ _ _ _ _ _ g1, ← Array.getElem?_toList]
    rw [List.getElem?_drop, ← HTK.out, List.getElem?_take] at hu
    split at hu
    · exact hu
    · cases hu
  have hf3 : (i + 1) * 79 + ((flatO L).drop (i * 79)).length ≤ c1.toArray.size := by rw [hdl, List.size_toArray, hI.out.2.2, hrl]; omega
  refine wp_region_tail_below 8 (by kernel_rfl) (by kernel_rfl) (by kernel_rfl) (by decide) (by kernel_rfl) ?_; simp only [List.take_succ_cons, List.take_zero, List.drop_succ_cons, List.drop_zero]
  repeat (first | go_big_quiet_skip | (quiet_step (fail)))
  refine wpQuiet_nil ?_; rintro wq ⟨⟨dq, osq⟩, rfl⟩; have hb := below_regrown w1 dq osq; generalize Go.Sort.grow (redrawn w1 dq) osq = wq at *
  have HB := Lib.hid hb
  have g2 := (hb.block _ (Array.getElem?_eq_some_iff.1 hg1).1).trans hg1
  have hcb2 : ∀ j u, ((flatO L).drop (i * 79))[j]? = some u → wq.cell? ((⟨g, i * 79, none⟩ : Addr).add j) = some u := fun j u hu => by
    rw [add_at, cell_of_row _ _ _ _ _ _ ((hb.block _ (Array.getElem?_eq_some_iff.1 g1).1).trans g1)]
    have := hcb j u hu
    rw [add_at, cell_of_row _ _ _ _ _ _ g1] at this
    exact this
  clear hcb hg1 hb g1
  go_wp2_with (first | ((with_reducible refine gate_op (op := .call { callee := .builtin .copy, args := #[.tmp 50, .tmp 53], argTypes := #[49, 49] }) rfl ?_); refine copy_arm rfl (.tmp 50) (.tmp 53) 49 40 rfl 79 w.heap.size ((i + 1) * 79) _ _ ⟨g, i * 79, none⟩ _ _ (L.length - i) c1.toArray 40 ((flatO L).drop (i * 79)) rfl rfl Tryz.underlying49 infoO79 g2 hm1 hdl hcb2 hf3 h1F ?_; intro w2 hg2 ho2 hb2 hs2) | go_skip)
  go_ret
  have hgr : w.grownBy w2 (some g) := ⟨hb2.os.trans (HB.out.os.trans (HS1.out.2.os.trans HA.out.os)), hb2.tape.trans (HB.out.tape.trans (HS1.out.2.tape.trans HA.out.tape)), hb2.output.trans (HB.out.output.trans (HS1.out.2.output.trans HA.out.output)), Nat.le_trans HA.out.size (Nat.le_trans HS1.out.2.size (Nat.le_trans HB.out.size hb2.size)), fun k hk hkg => by
    have h1 : k ≠ w.heap.size := by omega
    have hkA := Nat.lt_of_lt_of_le hk HA.out.size
    rw [ho2 k h1, HB.out.block k (Nat.lt_of_lt_of_le hkA HS1.out.2.size), HS1.out.1 k h1, HA.out.block k hk]⟩
  refine ⟨_, _, rfl, rowW_of (insO_len hin y) ⟨?_, .inr ⟨w.heap.size, G, _, rfl, HW.out, hg2, hGn, hG63, ?_, ?_⟩⟩ (insO_ok HOK.out HY.out), hgr, .inr rfl⟩
  · rw [flatO_len (insO_ok HOK.out HY.out), insO_len hin]
  · rw [List.size_toArray, show (i + 1) * 79 = i * 79 + 79 by omega, hI.out.2.1, hrl]
  · rw [insO_flat HOK.out]
    have := hI.out.1
    rw [show (L.length + 1) * 79 = L.length * 79 + 79 by omega, show (i + 1) * 79 = i * 79 + 79 by omega]
    exact this
theorem insOp_any (i : Nat) (hi : i ≤ L.length) : Calls Tryz.prog 49 #[.slice A L.length c, .int .i64 i, .slice (some ⟨vb, 0, none⟩) 1 1] w fun e w' => ∃ A' c', e = .returned (.slice A' (L.length + 1) c') ∧ RowW w0 w' (.slice A' (L.length + 1) c') (insO i y L) ∧ w.grownBy w' (Value.slice A L.length c).ownBlock ∧ ((Value.slice A' (L.length + 1) c').ownBlock = (Value.slice A L.length c).ownBlock ∨ (Value.slice A' (L.length + 1) c').ownBlock = some w.heap.size) := by
  rcases Nat.lt_or_ge i L.length with h | h
  · rcases Nat.lt_or_ge c (L.length + 1) with h1 | h1
    · exact insOp_grow A c L y vb w0 w hR hy hv hne hn hw0 i h h1
    · exact insOp_shift A c L y vb w0 w hR hy hv hne hn hw0 i h h1
  · obtain rfl : i = L.length := by omega
    rw [show insO L.length y L = L ++ [y] by unfold insO; simp]
    exact insOp_end A c L y vb w0 w hR hy hv hne hn hw0
end
end Go.Proofs.YtffcpmohanhihaaGreatDoor
