/-
  ClockOrder, walked: it returns true for all ids and every replica; what was there stays. No condition.
-/
import Derived.Test.YtlmligchjjgcmaaClkOrd0
import Derived.Test.YtlmligchjjgcmaaGive
import Derived.Deep.DeepCutAuto
namespace Go.Proofs.Ytlmligchjjgcmaa
open Go.RowKit
set_option linter.unusedVariables false
set_option linter.unusedSimpArgs false

theorem Less_idc {r n r' n' : Int} {b : Bool} (h : lessB r n r' n' = b) (w : World) :
    Calls Try.prog 15 #[.agg #[.int .i64 r, .int .i64 n], .agg #[.int .i64 r', .int .i64 n']] w fun e w' => e = .returned (.bool b) ∧ Below w.heap.size w w' := Less_is h w

theorem less_irr (r n : Int) : lessB r n r n = false := decide_eq_false (by omega)
theorem less_asym {r n r' n' : Int} (h : lessB r n r' n' = true) : lessB r' n' r n = false := by
  have h := of_decide_eq_true h
  exact decide_eq_false (by omega)
theorem less_trans {r n r' n' r2 n2 : Int} (h : lessB r n r' n' = true) (k : lessB r' n' r2 n2 = true) : lessB r n r2 n2 = true := by
  have h := of_decide_eq_true h
  have k := of_decide_eq_true k
  exact decide_eq_true (by omega)
theorem less_tri {r n r' n' : Int} (h : lessB r n r' n' = false) (k : lessB r' n' r n = false) : r = r' ∧ n = n' := by
  have h := of_decide_eq_false h
  have k := of_decide_eq_false k
  omega

set_option maxRecDepth 100000 in
set_option maxHeartbeats 4000000 in
theorem order_walk (ar an br bn cr cn r : Int) (w : World) : Calls Try.prog 5 #[.agg #[.int .i64 ar, .int .i64 an], .agg #[.int .i64 br, .int .i64 bn], .agg #[.int .i64 cr, .int .i64 cn], .int .i64 r] w fun e w' => e = .returned (.bool true) ∧ Below w.heap.size w w' := by
  have hS := Sees.start w
  go_enter Try.func5, Try.ntmps5
  go_wp2_with (go_at_call 6; refine (awake_any _).mono ?_; rintro e wn ⟨rfl, hbn⟩; have hS := (((hS.alloc (.cells #[.int .i64 ar, .int .i64 an] 27)).alloc (.cells #[.int .i64 br, .int .i64 bn] 27)).alloc (.cells #[.int .i64 cr, .int .i64 cn] 27)).step hbn; clear hbn)
  rename World => W
  have r4 := hS.g0
  have r5 : W.heap[w.heap.size + 1]? = some (.cells #[.int .i64 br, .int .i64 bn] 27 (0, 0)) := by simpa using hS.g1
  have r6 : W.heap[w.heap.size + 1 + 1]? = some (.cells #[.int .i64 cr, .int .i64 cn] 27 (0, 0)) := by simpa using hS.g2
  have hB := hS.below
  have d1 := grown_calls (w := W) (fun W _ => Less_idc (r := ar) (n := an) (r' := br) (n' := bn) rfl W)
  have d2 := grown_calls (w := W) (fun W _ => Less_idc (r := br) (n := bn) (r' := cr) (n' := cn) rfl W)
  refine wp_region_quiet_below (by kernel_rfl) (by kernel_rfl) ?_
  repeat (first | (refine BigFrame.wpQuiet_want rfl (fun K hK => ?_); refine quiet_load_row 27 (.tmp 4) rfl _ rfl 27 _ (0, 0) _ (row_regrown r4) Try.underlying27 rfl id_size ?_; refine hK _ ?_; clear hK K) | (refine BigFrame.wpQuiet_want rfl (fun K hK => ?_); refine quiet_load_row 27 (.tmp 5) rfl _ rfl 27 _ (0, 0) _ (row_regrown r5) Try.underlying27 rfl id_size ?_; refine hK _ ?_; clear hK K) | (refine BigFrame.wpQuiet_want rfl (fun K hK => ?_); refine quiet_load_row 27 (.tmp 6) rfl _ rfl 27 _ (0, 0) _ (row_regrown r6) Try.underlying27 rfl id_size ?_; refine hK _ ?_; clear hK K) | (quiet_step (first | with_reducible exact d1 _ _ | with_reducible exact d2 _ _)))
  refine wpQuiet_nil ?_; rintro wq ⟨⟨dq, osq⟩, rfl⟩; have hbq := below_regrown W dq osq; generalize Go.Sort.grow (redrawn W dq) osq = wq at *
  have hS : Sees w wq [(w.heap.size, .cells #[.int .i64 ar, .int .i64 an] 27), (w.heap.size + 1, .cells #[.int .i64 br, .int .i64 bn] 27), (w.heap.size + 1 + 1, .cells #[.int .i64 cr, .int .i64 cn] 27)] := by simpa using hS.step hbq
  clear r4 r5 r6 hB d1 d2 hbq
  go_upto_region 4 with (fail)
  go_cut [9, 10, 21, 24, 62] (fun s9 s10 s21 s24 s wx => s = .bool false ∧ Sees w wx [(w.heap.size, .cells #[.int .i64 ar, .int .i64 an] 27), (w.heap.size + 1, .cells #[.int .i64 br, .int .i64 bn] 27), (w.heap.size + 1 + 1, .cells #[.int .i64 cr, .int .i64 cn] 27)])
  case first =>
    have haa : lessB ar an ar an = false := less_irr _ _
    cases hX : lessB ar an br bn
    · cases hba : lessB br bn ar an
      · obtain ⟨e1, e2⟩ := less_tri hX hba
        subst e1 e2
        go_wp2_with (first | (refine wpList_load_row' rfl 27 (.tmp 4) rfl _ rfl 27 _ (0, 0) _ hS.g0 Try.underlying27 rfl id_size ?_) | (refine wpList_load_row' rfl 27 (.tmp 5) rfl _ rfl 27 _ (0, 0) _ hS.g1 Try.underlying27 rfl id_size ?_) | (refine wpList_load_row' rfl 27 (.tmp 6) rfl _ rfl 27 _ (0, 0) _ hS.g2 Try.underlying27 rfl id_size ?_) | (go_at_call 15; with_reducible (refine (Less_idc hba _).mono ?_); rintro e wn ⟨rfl, hbn⟩; (first | have hS := hS.step hbn | have hS := (hS.alloc _).step hbn); clear hbn) | (go_at_call 15; with_reducible (refine (Less_idc haa _).mono ?_); rintro e wn ⟨rfl, hbn⟩; (first | have hS := hS.step hbn | have hS := (hS.alloc _).step hbn); clear hbn) | (go_at_call 15; with_reducible (refine (Less_idc hac _).mono ?_); rintro e wn ⟨rfl, hbn⟩; (first | have hS := hS.step hbn | have hS := (hS.alloc _).step hbn); clear hbn))
        go_meet
        exact ⟨rfl, hS⟩
      · go_wp2_with (first | (refine wpList_load_row' rfl 27 (.tmp 4) rfl _ rfl 27 _ (0, 0) _ hS.g0 Try.underlying27 rfl id_size ?_) | (refine wpList_load_row' rfl 27 (.tmp 5) rfl _ rfl 27 _ (0, 0) _ hS.g1 Try.underlying27 rfl id_size ?_) | (refine wpList_load_row' rfl 27 (.tmp 6) rfl _ rfl 27 _ (0, 0) _ hS.g2 Try.underlying27 rfl id_size ?_) | (go_at_call 15; with_reducible (refine (Less_idc hba _).mono ?_); rintro e wn ⟨rfl, hbn⟩; (first | have hS := hS.step hbn | have hS := (hS.alloc _).step hbn); clear hbn) | (go_at_call 15; with_reducible (refine (Less_idc haa _).mono ?_); rintro e wn ⟨rfl, hbn⟩; (first | have hS := hS.step hbn | have hS := (hS.alloc _).step hbn); clear hbn) | (go_at_call 15; with_reducible (refine (Less_idc hac _).mono ?_); rintro e wn ⟨rfl, hbn⟩; (first | have hS := hS.step hbn | have hS := (hS.alloc _).step hbn); clear hbn))
        go_meet
        exact ⟨rfl, hS⟩
    · have hba := less_asym hX
      cases hY : lessB br bn cr cn
      · go_wp2_with (first | (refine wpList_load_row' rfl 27 (.tmp 4) rfl _ rfl 27 _ (0, 0) _ hS.g0 Try.underlying27 rfl id_size ?_) | (refine wpList_load_row' rfl 27 (.tmp 5) rfl _ rfl 27 _ (0, 0) _ hS.g1 Try.underlying27 rfl id_size ?_) | (refine wpList_load_row' rfl 27 (.tmp 6) rfl _ rfl 27 _ (0, 0) _ hS.g2 Try.underlying27 rfl id_size ?_) | (go_at_call 15; with_reducible (refine (Less_idc hba _).mono ?_); rintro e wn ⟨rfl, hbn⟩; (first | have hS := hS.step hbn | have hS := (hS.alloc _).step hbn); clear hbn) | (go_at_call 15; with_reducible (refine (Less_idc haa _).mono ?_); rintro e wn ⟨rfl, hbn⟩; (first | have hS := hS.step hbn | have hS := (hS.alloc _).step hbn); clear hbn) | (go_at_call 15; with_reducible (refine (Less_idc hac _).mono ?_); rintro e wn ⟨rfl, hbn⟩; (first | have hS := hS.step hbn | have hS := (hS.alloc _).step hbn); clear hbn))
        go_meet
        exact ⟨rfl, hS⟩
      · have hac := less_trans hX hY
        go_wp2_with (first | (refine wpList_load_row' rfl 27 (.tmp 4) rfl _ rfl 27 _ (0, 0) _ hS.g0 Try.underlying27 rfl id_size ?_) | (refine wpList_load_row' rfl 27 (.tmp 5) rfl _ rfl 27 _ (0, 0) _ hS.g1 Try.underlying27 rfl id_size ?_) | (refine wpList_load_row' rfl 27 (.tmp 6) rfl _ rfl 27 _ (0, 0) _ hS.g2 Try.underlying27 rfl id_size ?_) | (go_at_call 15; with_reducible (refine (Less_idc hba _).mono ?_); rintro e wn ⟨rfl, hbn⟩; (first | have hS := hS.step hbn | have hS := (hS.alloc _).step hbn); clear hbn) | (go_at_call 15; with_reducible (refine (Less_idc haa _).mono ?_); rintro e wn ⟨rfl, hbn⟩; (first | have hS := hS.step hbn | have hS := (hS.alloc _).step hbn); clear hbn) | (go_at_call 15; with_reducible (refine (Less_idc hac _).mono ?_); rintro e wn ⟨rfl, hbn⟩; (first | have hS := hS.step hbn | have hS := (hS.alloc _).step hbn); clear hbn))
        go_meet
        exact ⟨rfl, hS⟩
  case rest =>
    obtain ⟨rfl, hS⟩ := hcut
    by_cases h1 : r < 1
    · go_wp2
      go_ret
      exact ⟨rfl, hS.below⟩
    · by_cases h2 : 64 < r
      · have h1' : (1 : Int) ≤ r := by omega
        go_wp2
        go_ret
        exact ⟨rfl, hS.below⟩
      · obtain ⟨k, rfl⟩ : ∃ k : Nat, r = (k : Int) + 1 := ⟨(r - 1).toNat, by omega⟩
        have hk : k < 64 := by omega
        have h1' : (1 : Int) ≤ (k : Int) + 1 := by omega
        have h2' : (k : Int) + 1 ≤ 64 := by omega
        go_wp2_with (refine wpList_store_row rfl 24 (.tmp 11) (.tmp 69) rfl _ (vcells Z64) rfl rfl 24 _ (heap_alloc_new _ _) Z64_info rfl (vcells_one _) ?_; intro wn hbn hgn hon hsn; have hS := hS.box hon hbn hgn; clear hbn hgn hon hsn)
        obtain ⟨bV, hbV⟩ : ∃ bV, bV = wc.heap.size := ⟨_, rfl⟩
        obtain ⟨bL, hbL⟩ : ∃ bL, bL = wn.heap.size := ⟨_, rfl⟩
        have hlt : bV < bL := by rw [hbV, hbL]; exact hS.lt (p := (wc.heap.size, .cells (vcells Z64) 24)) (by simp)
        have hT : Sees w (wn.alloc (.cells #[.int .i64 0, .int .i64 0] 27)) [(bV, .cells (vcells (one k 0)) 24), (bL, .cells #[.int .i64 (lastR k 0), .int .i64 ((0 : Nat) : Int)] 27)] := by
          have h := hS.alloc (.cells #[.int .i64 0, .int .i64 0] 27)
          refine ⟨h.below, fun p hp => h.rows p ?_⟩
          rw [one_zero k hk] at hp
          rcases List.mem_cons.1 hp with rfl | hp
          · rw [hbV]; simp
          · obtain rfl := List.mem_singleton.1 hp
            rw [hbL]; simp [lastR]
        rw [← hbV, ← hbL]
        clear hS hbV hbL h1 h2
        go_loopw [13] (fun n wr => ∃ j : Nat, j ≤ 60 ∧ n = .int .i64 (j : Int) ∧ Sees w wr [(bV, .cells (vcells (one k j)) 24), (bL, .cells #[.int .i64 (lastR k j), .int .i64 (j : Int)] 27)]) (fun n _ => 61 - (intOf n).toNat)
        case atStart => exact ⟨0, by omega, rfl, hT⟩
        case round =>
          clear hT
          rename_i wr
          obtain ⟨j, hj, rfl, hS⟩ := hrel
          have hi := vec_info _ (one_length k j)
          by_cases hj60 : j < 60
          · have hN := fun W => (Next_any (one k j) ((k : Int) + 1) W (one_length k j))
            rw [next_one k j hk hj60] at hN
            have hW := fun W => (With_any (one k j) ((k : Int) + 1) ((j : Int) + 1) W (one_length k j))
            rw [with_one k j hk hj60] at hW
            have hG := fun W => Good_is (good_one k j hk hj60) W
            have hL := fun W => Less_idc (less_one k j) W
            have HN := Lib.hid hN
            have HW := Lib.hid hW
            have HG := Lib.hid hG
            have HL := Lib.hid hL
            clear hN hW hG hL
            have hi2 := vec_info _ (one_length k (j + 1))
            have hq : ((k : Int) + 1 == 0) = false := by simp only [beq_eq_false_iff_ne]; omega
            go_wp2_with (first | (refine wpList_load_row' rfl 24 (.tmp 11) rfl _ rfl 24 _ (0, 0) _ hS.g0 Try.underlying24 rfl hi ?_) | (refine wpList_load_row' rfl 24 (.tmp 11) rfl _ rfl 24 _ (0, 0) _ (hS.alloc _).g0 Try.underlying24 rfl hi ?_) | (go_at_call 8; with_reducible (refine (HN.out _).mono ?_); rintro e w14 ⟨rfl, hbn⟩; have hS := hS.step hbn; clear hbn; have h14 := hS.lt (p := (bL, .cells #[.int .i64 (lastR k j), .int .i64 (j : Int)] 27)) (by simp)) | (go_at_call 14; with_reducible (refine (HW.out _).mono ?_); rintro e w15 ⟨rfl, hbn⟩; have hS := (hS.alloc _).step hbn; clear hbn) | (refine wpList_store_row rfl 24 (.tmp 15) (.tmp 81) rfl _ (vcells (one k (j + 1))) rfl rfl 24 _ (heap_alloc_new _ _) hi2 (by rw [vcells_size, one_length]; rfl) (vcells_one _) ?_; intro w16 hbn hgn hon hsn; have h15 := hS.lt (p := (w14.heap.size, .cells #[.int .i64 ((k : Int) + 1), .int .i64 ((j : Int) + 1)] 27)) (by simp); have hS := hS.box hon hbn hgn; clear hbn hgn hon hsn) | (refine wpList_load_row' rfl 27 (.tmp 14) rfl _ rfl 27 _ (0, 0) _ hS.g2 Try.underlying27 rfl id_size ?_) | (refine wpList_load_row' rfl 27 (.tmp 12) rfl _ rfl 27 _ (0, 0) _ hS.g1 Try.underlying27 rfl id_size ?_) | (go_at_call 10; with_reducible (refine (HG.out _).mono ?_); rintro e wn ⟨rfl, hbn⟩; (first | have hS := hS.step hbn | have hS := (hS.alloc _).step hbn); clear hbn) | (go_at_call 15; with_reducible (refine (HL.out _).mono ?_); rintro e wn ⟨rfl, hbn⟩; (first | have hS := hS.step hbn | have hS := (hS.alloc _).step hbn); clear hbn))
            rename World => wz
            obtain ⟨b14, hb14⟩ : ∃ b, b = w14.heap.size := ⟨_, rfl⟩
            obtain ⟨b15, hb15⟩ : ∃ b, b = w15.heap.size := ⟨_, rfl⟩
            have hZ : Sees w wz [(bV, .cells (vcells (one k j)) 24), (bL, .cells #[.int .i64 (lastR k j), .int .i64 (j : Int)] 27), (b14, .cells #[.int .i64 ((k : Int) + 1), .int .i64 ((j : Int) + 1)] 27), (b15, .cells (vcells (one k (j + 1))) 24)] := by rw [hb14, hb15]; exact hS
            rw [← hb14, ← hb15]
            rw [← hb14] at h14 h15
            rw [← hb15] at h15
            clear hS hb14 hb15 HN HW HG HL
            refine wp_region_env 3 (by kernel_rfl) (by kernel_rfl) (by kernel_rfl) (by decide) (by kernel_rfl) (fun θ L wX => (L 0 = true → θ 0 = .agg (vcells (one k (j + 1)))) ∧ (L 1 = true → θ 1 = .agg #[.int .i64 ((k : Int) + 1), .int .i64 ((j : Int) + 1)]) ∧ Sees w wX [(bV, .cells (vcells (one k (if L 2 = true then j + 1 else j))) 24), (bL, .cells #[.int .i64 (lastR k j), .int .i64 (j : Int)] 27), (b14, .cells #[.int .i64 ((k : Int) + 1), .int .i64 ((j : Int) + 1)] 27), (b15, .cells (vcells (one k (j + 1))) 24)]) ⟨fun _ => undef, ?_⟩ ?_ ?_
            · exact ⟨fun h => (by cases h), fun h => (by cases h), hZ.step (Below.refl _ _).drew⟩
            · intro i o hi3 ho θ L wX hC hLi hdep hlat
              obtain ⟨h0, h1, hX⟩ := hC
              rcases (show i = 0 ∨ i = 1 ∨ i = 2 by omega) with rfl | rfl | rfl
              · obtain rfl := Option.some.inj ho
                refine if_want rfl ?_
                refine gives_load_row 24 (.tmp 15) rfl b15 rfl 24 _ (0, 0) _ hX.g3 Try.underlying24 rfl hi2 ⟨fun _ => updV_same _ _ _, fun h => ?_, ?_⟩
                · rw [updV_ne _ _ (by decide)]; rw [updL_ne _ (by decide)] at h; exact h1 h
                · rw [updL_ne _ (by decide)]; exact hX
              · obtain rfl := Option.some.inj ho
                refine if_want rfl ?_
                refine gives_load_row 27 (.tmp 14) rfl b14 rfl 27 _ (0, 0) _ hX.g2 Try.underlying27 rfl id_size ⟨fun h => ?_, fun _ => updV_same _ _ _, ?_⟩
                · rw [updV_ne _ _ (by decide)]; rw [updL_ne _ (by decide)] at h; exact h0 h
                · rw [updL_ne _ (by decide)]; exact hX
              · obtain rfl := Option.some.inj ho
                refine if_want rfl ?_
                have e0 := h0 (hdep 0 (by kernel_rfl))
                rw [hLi] at hX
                refine gives_store_row 24 (.tmp 11) (.tmp 96) rfl bV (vcells (one k (j + 1))) rfl e0 24 _ hX.g0 hi2 (by rw [vcells_size, vcells_size, one_length, one_length]) (vcells_one _) ?_
                intro v w' hg ho2 hb2
                refine ⟨fun h => ?_, fun h => ?_, ?_⟩
                · rw [updV_ne _ _ (by decide)]; rw [updL_ne _ (by decide)] at h; exact h0 h
                · rw [updV_ne _ _ (by decide)]; rw [updL_ne _ (by decide)] at h; exact h1 h
                · rw [updL_same, if_pos rfl]
                  refine Sees.set (L1 := []) hX ?_ ho2 hb2 hg
                  intro p hp
                  simp only [List.nil_append, List.mem_cons, List.mem_singleton, List.not_mem_nil, or_false] at hp
                  rcases hp with rfl | rfl | rfl <;> simp <;> omega
            · intro θ L wX hC hL
              obtain ⟨h0, h1, hX⟩ := hC
              have e0 := h0 (by rw [hL]; rfl)
              have e1 := h1 (by rw [hL]; rfl)
              rw [hL, if_pos (by rfl)] at hX
              simp only [seqTo, dstOf, Act.put, List.getElem?_toArray, List.getElem?_cons_zero, List.getElem?_cons_succ, Option.bind_some, List.setIfInBounds_toArray, List.set_cons_zero, List.set_cons_succ, List.drop_succ_cons, List.drop_zero]
              rw [e0, e1]
              refine wpList_store_row rfl 27 (.tmp 12) (.tmp 97) rfl bL #[.int .i64 ((k : Int) + 1), .int .i64 ((j : Int) + 1)] rfl rfl 27 _ hX.g1 id_size rfl (by simp [Value.oneCell']) ?_
              intro w' hb' hg' ho' _
              have hS : Sees w w' [(bV, .cells (vcells (one k (j + 1))) 24), (bL, .cells #[.int .i64 (lastR k (j + 1)), .int .i64 ((j + 1 : Nat) : Int)] 27)] := by
                have h := Sees.set (L1 := [(bV, .cells (vcells (one k (j + 1))) 24)]) hX (fun p hp => by
                  simp only [List.cons_append, List.nil_append, List.mem_cons, List.mem_singleton, List.not_mem_nil, or_false] at hp
                  rcases hp with rfl | rfl | rfl <;> simp <;> omega) ho' hb' hg'
                refine ⟨h.below, fun p hp => h.rows p ?_⟩
                have e : lastR k (j + 1) = (k : Int) + 1 := rfl
                rw [e] at hp
                rcases List.mem_cons.1 hp with rfl | hp
                · simp
                · obtain rfl := List.mem_singleton.1 hp
                  simp
              clear hX e0 e1 hZ h0 h1 hL ho' hg' hb'
              go_wp2
              go_roundw
              case rel => exact ⟨j + 1, by omega, by go_num, hS⟩
              case measure => simp [intOf]; omega
          · obtain rfl : j = 60 := by omega
            have hN := fun W => (Next_any (one k 60) ((k : Int) + 1) W (one_length k 60))
            rw [next_last k hk] at hN
            have hT := fun W => (Total_any (one k 60) W (one_length k 60))
            rw [tot_one k hk] at hT
            have HN := Lib.hid hN
            have HT := Lib.hid hT
            clear hN hT
            go_wp2_with (first | (refine wpList_load_row' rfl 24 (.tmp 11) rfl _ rfl 24 _ (0, 0) _ hS.g0 Try.underlying24 rfl hi ?_) | (go_at_call 8; with_reducible (refine (HN.out _).mono ?_); rintro e wn ⟨rfl, hbn⟩; (first | have hS := hS.step hbn | have hS := (hS.alloc _).step hbn); clear hbn) | (go_at_call 9; with_reducible (refine (HT.out _).mono ?_); rintro e wn ⟨rfl, hbn⟩; (first | have hS := hS.step hbn | have hS := (hS.alloc _).step hbn); clear hbn) | (refine wpList_load_row' rfl 24 (.tmp 11) rfl _ rfl 24 _ (0, 0) _ (hS.alloc _).g0 Try.underlying24 rfl hi ?_))
            go_ret
            exact ⟨rfl, hS.below⟩
end Go.Proofs.Ytlmligchjjgcmaa
