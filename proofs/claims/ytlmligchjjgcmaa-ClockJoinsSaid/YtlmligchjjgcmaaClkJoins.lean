/-
  ClockJoins, walked: it returns true for all vectors; what was there stays. No condition beside 64 numbers in each.
-/
import Derived.Test.YtlmligchjjgcmaaClkJoinR
import Derived.Test.YtlmligchjjgcmaaClkJoin2
import Derived.Deep.DeepCutAuto
namespace Go.Proofs.Ytlmligchjjgcmaa
open Go.RowKit
set_option linter.unusedVariables false
set_option linter.unusedSimpArgs false
theorem Join_is {v u x : List Int} (hv : v.length = 64) (hu : u.length = 64) (h : joinOf v u = x) (w : World) :
    Calls Try.prog 7 #[.agg (vcells v), .agg (vcells u)] w fun e w' => e = .returned (.agg (vcells x)) ∧ Below w.heap.size w w' := h ▸ Join_any v u w hv hu
theorem Covers_is {v u : List Int} {b : Bool} (hv : v.length = 64) (hu : u.length = 64) (h : coversB v u = b) (w : World) :
    Calls Try.prog 12 #[.agg (vcells v), .agg (vcells u)] w fun e w' => e = .returned (.bool b) ∧ Below w.heap.size w w' := h ▸ Covers_any v u w hv hu

set_option maxRecDepth 100000 in
set_option maxHeartbeats 4000000 in
theorem joins_walk (u v x : List Int) (w : World) (hu : u.length = 64) (hv : v.length = 64) (hx : x.length = 64) : Calls Try.prog 4 #[.agg (vcells u), .agg (vcells v), .agg (vcells x)] w fun e w' => e = .returned (.bool true) ∧ Below w.heap.size w w' := by
  have hS := Sees.start w
  have iu := vec_info u hu
  have iv := vec_info v hv
  have ix := vec_info x hx
  obtain ⟨a, ha⟩ : ∃ a, a = joinOf u v := ⟨_, rfl⟩
  have la : a.length = 64 := by rw [ha, joinOf_length]; exact hu
  have ia := vec_info a la
  have j1 : joinOf u v = a := ha.symm
  have j2 : joinOf v u = a := by rw [ha]; exact join_comm hv hu
  obtain ⟨b, hb⟩ : ∃ b, b = joinOf v x := ⟨_, rfl⟩
  have lb : b.length = 64 := by rw [hb, joinOf_length]; exact hv
  obtain ⟨c, hc⟩ : ∃ c, c = joinOf a x := ⟨_, rfl⟩
  have lc : c.length = 64 := by rw [hc, joinOf_length]; exact la
  have j3 : joinOf u b = c := by rw [hc, ha, hb]; exact (join_assoc hu hv).symm
  have j4 : joinOf a a = a := by rw [ha]; exact join_self hu hv
  have k1 : coversB a u = true := by rw [ha]; exact join_covers1 hu hv
  have k2 : coversB a v = true := by rw [ha]; exact join_covers2 hu hv
  have cJ1 := fun W => Join_is hu hv j1 W
  have HJ1 := Lib.hid cJ1
  clear cJ1
  have HK := Lib.hid (And.intro j1 (And.intro j2 (And.intro j3 (And.intro j4 (And.intro k1 k2)))))
  have hbb := Lib.hid hb
  clear ha hb j1 j2 j3 j4 k1 k2
  have Hc := Lib.hid hc
  clear hc
  go_enter Try.func4, Try.ntmps4
  go_wp2_with (first | (go_at_call 6; refine (awake_any _).mono ?_; rintro e wn ⟨rfl, hbn⟩; have hS := (((hS.alloc (.cells (vcells u) 24)).alloc (.cells (vcells v) 24)).alloc (.cells (vcells x) 24)).step hbn; clear hbn; have hS : Sees w wn [(w.heap.size, .cells (vcells u) 24), (w.heap.size + 1, .cells (vcells v) 24), (w.heap.size + 1 + 1, .cells (vcells x) 24)] := (by simpa using hS)) | (refine wpList_load_row' rfl 24 (.tmp 3) rfl _ rfl 24 _ (0, 0) _ hS.g0 Try.underlying24 rfl iu ?_) | (refine wpList_load_row' rfl 24 (.tmp 4) rfl _ rfl 24 _ (0, 0) _ hS.g1 Try.underlying24 rfl iv ?_) | (go_at_call 7; with_reducible (refine (HJ1.out _).mono ?_); rintro e w6 ⟨rfl, hbn⟩; have hS := hS.step hbn; clear hbn) | (refine wpList_store_row rfl 24 (.tmp 7) (.tmp 17) rfl _ (vcells a) rfl rfl 24 _ (heap_alloc_new _ _) ia (by rw [vcells_size, la]; rfl) (vcells_one _) ?_; intro w7 hbn hgn hon hsn; have hS := hS.box hon hbn hgn; clear hbn hgn hon hsn))
  obtain ⟨b7, hb7⟩ : ∃ b7, b7 = w6.heap.size := ⟨_, rfl⟩
  have hS : Sees w w7 [(w.heap.size, .cells (vcells u) 24), (w.heap.size + 1, .cells (vcells v) 24), (w.heap.size + 1 + 1, .cells (vcells x) 24), (b7, .cells (vcells a) 24)] := by rw [hb7]; exact hS
  rw [← hb7]
  clear hb7
  obtain ⟨j1, j2, j3, j4, k1, k2⟩ := HK.out
  have e1 := grown_calls (w := w7) (fun W _ => Join_is hv hu j2 W)
  have e2 := grown_calls (w := w7) (fun W _ => Join_is la hx Hc.out.symm W)
  have e4 := grown_calls (w := w7) (fun W _ => Join_is hu lb j3 W)
  have e5 := grown_calls (w := w7) (fun W _ => Covers_is la hu k1 W)
  have e6 := grown_calls (w := w7) (fun W _ => Covers_is la hv k2 W)
  have e7 := grown_calls (w := w7) (fun W _ => Join_is la la j4 W)
  have e3 := grown_calls (w := w7) (fun W _ => Join_is hv hx hbb.out.symm W)
  clear j1 j2 j3 j4 k1 k2
  have va : ∀ W, (Op.equalIn 10000 24 (.agg (vcells a)) (.agg (vcells a))).run Try.prog W = .ok true W := fun W => by
    have h := run_equalIn_vec W 9998 24 2 64 Try.underlying24 Try.underlying2 (by kernel_rfl) a a la la
    rw [beq_self_eq_true] at h; exact h
  have vc : ∀ W, (Op.equalIn 10000 24 (.agg (vcells c)) (.agg (vcells c))).run Try.prog W = .ok true W := fun W => by
    have h := run_equalIn_vec W 9998 24 2 64 Try.underlying24 Try.underlying2 (by kernel_rfl) c c lc lc
    rw [beq_self_eq_true] at h; exact h
  have r3 := hS.g0
  have r4 := hS.g1
  have r5 := hS.g2
  have r7 := hS.g3
  refine wp_region_quiet_below (by kernel_rfl) (by kernel_rfl) ?_
  repeat (first | (refine BigFrame.wpQuiet_want rfl (fun K hK => ?_); refine quiet_load_row 24 (.tmp 3) rfl _ rfl 24 _ (0, 0) _ (row_regrown r3) Try.underlying24 rfl iu ?_; refine hK _ ?_; clear hK K) | (refine BigFrame.wpQuiet_want rfl (fun K hK => ?_); refine quiet_load_row 24 (.tmp 4) rfl _ rfl 24 _ (0, 0) _ (row_regrown r4) Try.underlying24 rfl iv ?_; refine hK _ ?_; clear hK K) | (refine BigFrame.wpQuiet_want rfl (fun K hK => ?_); refine quiet_load_row 24 (.tmp 5) rfl _ rfl 24 _ (0, 0) _ (row_regrown r5) Try.underlying24 rfl ix ?_; refine hK _ ?_; clear hK K) | (refine BigFrame.wpQuiet_want rfl (fun K hK => ?_); refine quiet_load_row 24 (.tmp 7) rfl _ rfl 24 _ (0, 0) _ (row_regrown r7) Try.underlying24 rfl ia ?_; refine hK _ ?_; clear hK K) | (quiet_step (first | with_reducible exact e1 _ _ | with_reducible exact e2 _ _ | with_reducible exact e3 _ _ | with_reducible exact e4 _ _ | with_reducible exact e5 _ _ | with_reducible exact e6 _ _ | with_reducible exact e7 _ _)))
  refine wpQuiet_nil ?_; rintro wq ⟨⟨dq, osq⟩, rfl⟩; have hbq := below_regrown w7 dq osq; generalize Go.Sort.grow (redrawn w7 dq) osq = wq at *
  have hS := hS.step hbq
  have hSq := hS
  clear e1 e2 e3 e4 e5 e6 e7 r3 r4 r5 r7 hbq vc
  go_wp2_with (first | (refine wpList_load_row' rfl 24 (.tmp 3) rfl _ rfl 24 _ (0, 0) _ hS.g0 Try.underlying24 rfl iu ?_) | (refine wpList_load_row' rfl 24 (.tmp 4) rfl _ rfl 24 _ (0, 0) _ hS.g1 Try.underlying24 rfl iv ?_) | (refine wpList_store_row rfl 24 (.tmp 8) (.tmp 53) rfl _ (vcells u) rfl rfl 24 _ (heap_alloc_new _ _) iu (by rw [vcells_size, hu]; rfl) (vcells_one _) ?_; intro w8 hbn hgn hon hsn; have hS := hS.box hon hbn hgn; clear hbn hgn hon hsn))
  obtain ⟨b8, hb8⟩ : ∃ b8, b8 = wq.heap.size := ⟨_, rfl⟩
  have h78 : b7 < b8 := by rw [hb8]; exact hSq.lt (p := (b7, .cells (vcells a) 24)) (by simp)
  have hwb : w.heap.size + 1 + 1 < b8 := by rw [hb8]; exact hSq.lt (p := (w.heap.size + 1 + 1, .cells (vcells x) 24)) (by simp)
  have hS : Sees w w8 [(w.heap.size, .cells (vcells u) 24), (w.heap.size + 1, .cells (vcells v) 24), (w.heap.size + 1 + 1, .cells (vcells x) 24), (b7, .cells (vcells a) 24), (b8, .cells (vcells u) 24)] := by rw [hb8]; exact hS
  have h8 : b8 < w8.heap.size := hS.lt (p := (b8, .cells (vcells u) 24)) (by simp)
  rw [← hb8]
  clear hb8 hSq
  refine (Missing_any u v _ hu hv).mono ?_
  rintro e w9 ⟨sl, rfl, hsl, hb9⟩
  obtain ⟨A, cap, SL, rfl, hSL, hin⟩ := miss_slice hsl
  have hS : Sees w w9 ([(w.heap.size, .cells (vcells u) 24), (w.heap.size + 1, .cells (vcells v) 24), (w.heap.size + 1 + 1, .cells (vcells x) 24), (b7, .cells (vcells a) 24), (b8, .cells (vcells u) 24)] ++ SL) := (hS.step hb9).addAll (fun q hq => ⟨Nat.le_trans hS.below.size (hSL q hq).1, (hSL q hq).2⟩)
  have hSLb : ∀ q ∈ SL, b8 < q.1 := fun q hq => Nat.lt_of_lt_of_le h8 (hSL q hq).1
  have Hin := Lib.hid hin
  have HSLb := Lib.hid hSLb
  have h0 := after_zero u v hu
  have hlen : (missOf u v).length ≤ 3840 := missTo_length u v 64
  obtain ⟨M, hM⟩ : ∃ M, M = missOf u v := ⟨_, rfl⟩
  rw [← hM] at hlen Hin
  simp only [← hM]
  have HM := Lib.hid (And.intro hM hlen)
  clear hsl hb9 hSL hin hSLb h8 hM hlen
  go_wp2
  go_loopw [10] (fun i wr => ∃ (m : Nat) (y : List Int), m ≤ M.length ∧ i = .int .i64 (m : Int) ∧ After u v m y ∧ Sees w wr ([(w.heap.size, .cells (vcells u) 24), (w.heap.size + 1, .cells (vcells v) 24), (w.heap.size + 1 + 1, .cells (vcells x) 24), (b7, .cells (vcells a) 24), (b8, .cells (vcells y) 24)] ++ SL)) (fun i _ => 3841 - (intOf i).toNat)
  case atStart => exact ⟨0, u, by omega, rfl, h0, hS⟩
  case round =>
    clear hS h0
    rename_i wr
    obtain ⟨m, y, hm, rfl, hA, hS⟩ := hrel
    have ly := hA.len
    have iy := vec_info y ly
    by_cases hml : m < M.length
    · have hp : M[m]? = some M[m] := List.getElem?_eq_getElem hml
      generalize M[m] = p at hp
      obtain ⟨g, cur, rfl, rfl, hcap, hc0, hc1⟩ := Hin.out m p hp
      obtain ⟨hb1, hb2, hb3, hb4⟩ := after_next hA (HM.out.1 ▸ hp)
      have hgb : b8 < g := HSLb.out _ (List.mem_singleton.2 rfl)
      have rg := hS.get (g, .cells cur 27 (0, 0)) (by simp)
      have r4 : wr.heap[w.heap.size + 1]? = _ := hS.g1
      have r8 : wr.heap[b8]? = _ := hS.g4
      have c0 : wr.cell? ⟨g, m * 2, none⟩ = some (.int .i64 p.1) := by rw [cell_of_row _ _ _ _ _ _ rg]; exact hc0
      have c1 : wr.cell? ⟨g, m * 2 + 1, none⟩ = some (.int .i64 p.2) := by rw [cell_of_row _ _ _ _ _ _ rg]; exact hc1
      have k0 := cell_regrown c0
      have k1 := cell_regrown c1
      have hH1 := fun W => Has_any y p.1 p.2 W ly
      rw [hb1] at hH1
      have hH2 := fun W => Has_any v p.1 p.2 W hv
      rw [hb2] at hH2
      have d1 := grown_calls (w := wr) (fun W _ => hH1 W)
      have d2 := grown_calls (w := wr) (fun W _ => hH2 W)
      have hmi : (m : Int) < (M.length : Int) := by omega
      have hm0 : (0 : Int) ≤ m := by omega
      obtain ⟨y', hy'⟩ : ∃ y', y' = (withOf y p.1 p.2).1 := ⟨_, rfl⟩
      have hW := fun W => With_any y p.1 p.2 W ly
      rw [← hy', hb3] at hW
      rw [← hy'] at hb4
      have HW := Lib.hid hW
      clear hH1 hH2 hW hy' hb1 hb2 hb3 hp hcap
      have Hc0 := Lib.hid hc0
      have Hc1 := Lib.hid hc1
      clear hc0 hc1
      go_wp2
      refine wp_region_quiet_below (by kernel_rfl) (by kernel_rfl) ?_
      repeat (first | (refine BigFrame.wpQuiet_want rfl (fun K hK => ?_); refine quiet_load_row 24 (.tmp 8) rfl _ rfl 24 _ (0, 0) _ (row_regrown r8) Try.underlying24 rfl iy ?_; refine hK _ ?_; clear hK K) | (refine BigFrame.wpQuiet_want rfl (fun K hK => ?_); refine quiet_load_row 24 (.tmp 4) rfl _ rfl 24 _ (0, 0) _ (row_regrown r4) Try.underlying24 rfl iv ?_; refine hK _ ?_; clear hK K) | (quiet_step (first | with_reducible exact d1 _ _ | with_reducible exact d2 _ _)))
      refine wpQuiet_nil ?_; rintro wq ⟨⟨dq, osq⟩, rfl⟩; have hbq := below_regrown wr dq osq; generalize Go.Sort.grow (redrawn wr dq) osq = wq at *
      have hS := hS.step hbq
      clear d1 d2 rg r4 r8 c0 c1 k0 k1 hbq
      go_wp2
      rename World => wz
      refine reg13 (by kernel_rfl) (b8 := b8) (g := g) (cap := cap) (n := M.length) (m := m) (p := p) (cur := cur) (y := y) (y' := y') (of_decide_eq_true (by kernel_rfl)) rfl rfl rfl hml hS (by simp) (by simp) Hc0.out Hc1.out ly hb4.len HW.out ?_
      intro θ wX b11 e8 e9 hqb hX
      simp only [seqTo, dstOf, Act.put, List.getElem?_toArray, List.getElem?_cons_zero, List.getElem?_cons_succ, Option.bind_some, List.setIfInBounds_toArray, List.set_cons_zero, List.set_cons_succ, List.drop_succ_cons, List.drop_zero]
      rw [e8, e9]
      have hb11 : b8 ≠ b11 := hqb (b8, .cells (vcells y) 24 (0, 0)) (by simp)
      have r11 := hX.get (b11, .cells (vcells y') 24 (0, 0)) (by simp)
      have r8 := hX.get (b8, .cells (vcells y) 24 (0, 0)) (by simp)
      have hX2 : Sees w wX ([(w.heap.size, .cells (vcells u) 24), (w.heap.size + 1, .cells (vcells v) 24), (w.heap.size + 1 + 1, .cells (vcells x) 24), (b7, .cells (vcells a) 24)] ++ (b8, .cells (vcells y) 24 (0, 0)) :: [(g, .cells cur 27 (0, 0)), (b11, .cells (vcells y') 24 (0, 0))]) := hX
      have hne : ∀ p ∈ ([(w.heap.size, .cells (vcells u) 24), (w.heap.size + 1, .cells (vcells v) 24), (w.heap.size + 1 + 1, .cells (vcells x) 24), (b7, .cells (vcells a) 24)] : List (Nat × Obj)) ++ [(g, .cells cur 27 (0, 0)), (b11, .cells (vcells y') 24 (0, 0))], p.1 ≠ b8 := by
        intro p hp
        simp at hp
        rcases hp with rfl | rfl | rfl | rfl | rfl | rfl <;> simp <;> omega
      have iy' := vec_info y' hb4.len
      have hsz : (vcells y).size = (vcells y').size := by rw [vcells_size, vcells_size, ly, hb4.len]
      clear e8 e9 hS hqb hX
      go_wp2_with (first | (refine wpList_load_row' rfl 24 (.tmp 11) rfl _ rfl 24 _ (0, 0) _ r11 Try.underlying24 rfl iy' ?_) | (refine wpList_store_row rfl 24 (.tmp 8) (.tmp 89) rfl _ (vcells y') rfl rfl 24 _ r8 iy' hsz (vcells_one _) ?_; intro wn hbn hgn hon hsn; have hS := hX2.set hne hon hbn hgn; clear hbn hgn hon hsn))
      clear hne hX2 r11 r8
      go_roundw
      case rel => exact ⟨m + 1, y', hml, wrap_next hml HM.out.2, hb4, hS.sub (fun p hp => mem_swap hp)⟩
      case measure => exact nearer hml HM.out.2
    · obtain rfl : m = M.length := by omega
      obtain ⟨f1, f2, -⟩ := after_end hu (HM.out.1 ▸ hA)
      rw [HK.out.1] at f2
      have e1 := grown_calls (w := wr) (fun W _ => Covers_is ly hv f1 W)
      have e2 := grown_calls (w := wr) (fun W _ => Join_is ly Z64_length f2 W)
      have e3 := grown_calls (w := wr) (fun W _ => Missing_none y v W ly hv f1)
      have r4 : wr.heap[w.heap.size + 1]? = _ := hS.g1
      have r7 : wr.heap[b7]? = _ := hS.g3
      have r8 : wr.heap[b8]? = _ := hS.g4
      have hfin := hS.below
      clear f1 f2 hA hS
      go_wp2
      refine wp_region_quiet_below (by kernel_rfl) (by kernel_rfl) ?_
      repeat (first | (refine BigFrame.wpQuiet_want rfl (fun K hK => ?_); refine quiet_load_row 24 (.tmp 8) rfl _ rfl 24 _ (0, 0) _ (row_regrown r8) Try.underlying24 rfl iy ?_; refine hK _ ?_; clear hK K) | (refine BigFrame.wpQuiet_want rfl (fun K hK => ?_); refine quiet_load_row 24 (.tmp 4) rfl _ rfl 24 _ (0, 0) _ (row_regrown r4) Try.underlying24 rfl iv ?_; refine hK _ ?_; clear hK K) | (refine BigFrame.wpQuiet_want rfl (fun K hK => ?_); refine quiet_load_row 24 (.tmp 7) rfl _ rfl 24 _ (0, 0) _ (row_regrown r7) Try.underlying24 rfl ia ?_; refine hK _ ?_; clear hK K) | (refine BigFrame.wpQuiet_want rfl (fun K hK => ?_); refine quiet_build0 24 rfl (vcells Z64) build_vec ?_; refine hK _ ?_; clear hK K) | (quiet_step (first | with_reducible exact e1 _ _ | with_reducible exact e2 _ _ | with_reducible exact e3 _ _)))
      refine wpQuiet_nil ?_; rintro wq ⟨⟨dq, osq⟩, rfl⟩; have hbq := below_regrown wr dq osq; generalize Go.Sort.grow (redrawn wr dq) osq = wq at *
      have hfin := below_then hfin hfin.size hbq
      clear e1 e2 e3 r4 r7 r8 hbq
      go_wp2
      go_ret
      exact ⟨rfl, hfin⟩
end Go.Proofs.Ytlmligchjjgcmaa
