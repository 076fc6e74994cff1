/-
  value.judge's walk over a tree, walked. Condition: what own and letters tell is known.
-/
import Derived.Test.YtffcpmohanhihaaGreatDoorJ11
import Derived.Test.YtffcpmohanhihaaGreatDoorReg
namespace Go.Proofs.YtffcpmohanhihaaGreatDoor
open Go.RowKit
set_option linter.unusedVariables false
set_option linter.unusedSimpArgs false
set_option linter.unusedSectionVars false
theorem runTo_bd {p : Nat → Int → Bool × Int} (hp : ∀ i m, m ≤ 4096 → m ≤ (p i m).2 ∧ ((p i m).1 = true → (p i m).2 ≤ 4096)) (k : Nat) (n : Int) (hn : n ≤ 4096) : n ≤ (runTo p k n).2 ∧ ((runTo p k n).1 = true → (runTo p k n).2 ≤ 4096) := by
  induction k with
  | zero => exact ⟨Int.le_refl _, fun _ => hn⟩
  | succ k ih =>
    obtain ⟨h1, h2⟩ := ih
    simp only [runTo]
    by_cases hq : (runTo p k n).1 = true
    · rw [if_pos hq]
      have := hp k _ (h2 hq)
      exact ⟨by omega, this.2⟩
    · rw [if_neg hq]
      exact ⟨h1, fun h => by cases h⟩
theorem runTo_next {p : Nat → Int → Bool × Int} {n m m' : Int} {i : Nat} {r : Bool} (h : runTo p i n = (true, m)) (hp : p i m = (r, m')) : runTo p (i + 1) n = (r, m') := by
  rw [runTo, h]; simpa using hp
theorem runTo_false {p : Nat → Int → Bool × Int} {n m m' : Int} {i k : Nat} (hi : i < k) (h : runTo p i n = (true, m)) (hp : p i m = (false, m')) : runTo p k n = (false, m') :=
  runTo_stop hi (by rw [h]) (by rw [h]; exact hp)
theorem judge_bd (ob : VT → Bool) (letC : ByteArray → Int) (t : VT) : ∀ (deep n0 : Int), n0 ≤ 4096 → n0 ≤ (judgeT ob letC t deep n0).2 ∧ ((judgeT ob letC t deep n0).1 = true → (judgeT ob letC t deep n0).2 ≤ 4096) := by
  have key : ∀ t : VT, (∀ i deep n0, n0 ≤ 4096 → n0 ≤ (judgeT ob letC (t.lt i) deep n0).2 ∧ ((judgeT ob letC (t.lt i) deep n0).1 = true → (judgeT ob letC (t.lt i) deep n0).2 ≤ 4096)) →
      (∀ i deep n0, n0 ≤ 4096 → n0 ≤ (judgeT ob letC (t.mt i) deep n0).2 ∧ ((judgeT ob letC (t.mt i) deep n0).1 = true → (judgeT ob letC (t.mt i) deep n0).2 ≤ 4096)) →
      ∀ (deep n0 : Int), n0 ≤ 4096 → n0 ≤ (judgeT ob letC t deep n0).2 ∧ ((judgeT ob letC t deep n0).1 = true → (judgeT ob letC t deep n0).2 ≤ 4096) := by
    intro t hl hm deep n0 hn
    rw [judgeT_eq]
    by_cases h4 : 4096 < n0 + 1
    · rw [if_pos (by simp [h4])]
      exact ⟨by simp; omega, fun h => by cases h⟩
    split
    · exact ⟨by simp; omega, fun h => by cases h⟩
    · have b1 := runTo_bd (p := judgeL ob letC t deep) (fun i m hm' => hl i _ m hm') t.ln (n0 + 1) (by omega)
      split
      · rename_i h5
        have b2 := runTo_bd (p := judgeM ob letC t deep) (fun i m hm' => by
          unfold judgeM
          split
          · exact ⟨Int.le_refl _, fun h => by cases h⟩
          · exact hm i _ m hm') t.mn _ (b1.2 h5)
        exact ⟨by omega, b2.2⟩
      · exact ⟨by simp; omega, fun h => by cases h⟩
  induction t with
  | no =>
    intro deep n0 hn
    simp only [judgeT]
    by_cases h4 : 4096 < n0 + 1
    · rw [if_pos (by simp [h4])]
      exact ⟨by simp; omega, fun h => by cases h⟩
    split
    · exact ⟨by simp; omega, fun h => by cases h⟩
    · exact ⟨by simp; omega, fun _ => by simp; omega⟩
  | mk k n s lA lb lo ln lc lt mA mb mo mn mc ky mt ihl ihm => exact key _ (fun i => ihl i) (fun i => ihm i)
section
variable (ob : VT → Bool) (letC : ByteArray → Int) (G : Nat) (C : World → Prop) (hC : ∀ B W W', G ≤ B → C W → Below B W W' → C W')
  (hown : ∀ t W, C W → VT.In W.heap.size W t → Calls Tryz.prog 126 #[.agg t.c] W fun e w' => e = .returned (.bool (ob t)) ∧ Below W.heap.size W w')
  (hlet : ∀ s W, C W → s.size ≤ 9223372036854775807 → Calls Tryz.prog 127 #[.string s] W fun e w' => e = .returned (.int .i64 (letC s)) ∧ Below W.heap.size W w')
/-- What is to be shown of a tree. -/
def JudgeOk (t : VT) : Prop := ∀ (deep n0 : Int) (b : Nat) (w : World), C w → G ≤ b → VT.In b w t → w.heap[b]? = some (.cells #[.int .i64 n0] 155 (0, 0)) → 0 ≤ n0 → n0 ≤ 4096 → 1 ≤ deep → deep ≤ 33 →
  Calls Tryz.prog 109 #[.pointer (some ⟨b, 0, none⟩), .agg t.c, .int .i64 deep] w fun e w' => e = .returned (.bool (judgeT ob letC t deep n0).1) ∧ JS w w' b (judgeT ob letC t deep n0).2 []
include hC hown hlet
theorem int_size' : (Tryz.prog.info? 3).map (·.size) = some 1 := by kernel_rfl
set_option maxRecDepth 100000 in
set_option maxHeartbeats 1000000 in
theorem judge_n (t : VT) (deep n0 : Int) (b : Nat) (w : World) (hcell : w.heap[b]? = some (.cells #[.int .i64 n0] 155 (0, 0))) (h0 : 0 ≤ n0) (h : 4096 < n0 + 1) (hn : n0 ≤ 4096) :
    Calls Tryz.prog 109 #[.pointer (some ⟨b, 0, none⟩), .agg t.c, .int .i64 deep] w fun e w' => e = .returned (.bool (judgeT ob letC t deep n0).1) ∧ JS w w' b (judgeT ob letC t deep n0).2 [] := by
  have hh : Hid (judgeT ob letC t deep n0 = (false, n0 + 1)) := by unfold Hid; rw [judgeT_eq, if_pos (by simp [h])]
  have hb0 : b < w.heap.size := (Array.getElem?_eq_some_iff.1 hcell).1
  have hS : JS w (w.alloc (Obj.cells t.c 38)) b n0 [(w.heap.size, Obj.cells t.c 38)] := (JS.start w hcell).alloc _
  have hc0 : (w.alloc (Obj.cells t.c 38)).cell? ⟨b, 0, none⟩ = some (.int .i64 n0) := cell_of_row _ _ _ _ _ _ hS.cell
  clear hcell
  go_enter Tryz.func109, Tryz.ntmps109
  go_wp2_with (first | go_skip | (refine store_elem rfl 3 (.tmp 17) _ rfl b 0 (.int .i64 (n0 + 1)) rfl rfl rfl 155 _ _ hS.cell rfl (by kernel_rfl) ?_; intro wn hgn hon hbn hsn; have hS1 := hS.set hb0 hon hbn hgn; clear hS hgn hon hbn hsn hc0; have hS := hS1; clear hS1; have hc0 : wn.cell? ⟨b, 0, none⟩ = some (.int .i64 (n0 + 1)) := cell_of_row _ _ _ _ _ _ hS.cell))
  go_ret
  exact ⟨ret_bool (congrArg Prod.fst hh.out).symm, by rw [hh.out]; exact hS.drop (fun p hp => by cases hp)⟩
set_option maxRecDepth 100000 in
set_option maxHeartbeats 1000000 in
theorem judge_d (t : VT) (deep n0 : Int) (b : Nat) (w : World) (hcell : w.heap[b]? = some (.cells #[.int .i64 n0] 155 (0, 0))) (h0 : 0 ≤ n0) (h : n0 + 1 ≤ 4096) (hd : 32 < deep) :
    Calls Tryz.prog 109 #[.pointer (some ⟨b, 0, none⟩), .agg t.c, .int .i64 deep] w fun e w' => e = .returned (.bool (judgeT ob letC t deep n0).1) ∧ JS w w' b (judgeT ob letC t deep n0).2 [] := by
  have hh : Hid (judgeT ob letC t deep n0 = (false, n0 + 1)) := by unfold Hid; rw [judgeT_eq, if_pos (by simp [hd])]
  have h4 : decide (4096 < n0 + 1) = false := by simp; omega
  have hb0 : b < w.heap.size := (Array.getElem?_eq_some_iff.1 hcell).1
  have hS : JS w (w.alloc (Obj.cells t.c 38)) b n0 [(w.heap.size, Obj.cells t.c 38)] := (JS.start w hcell).alloc _
  have hc0 : (w.alloc (Obj.cells t.c 38)).cell? ⟨b, 0, none⟩ = some (.int .i64 n0) := cell_of_row _ _ _ _ _ _ hS.cell
  clear hcell
  go_enter Tryz.func109, Tryz.ntmps109
  go_wp2_with (first | go_skip | (refine store_elem rfl 3 (.tmp 17) _ rfl b 0 (.int .i64 (n0 + 1)) rfl rfl rfl 155 _ _ hS.cell rfl (by kernel_rfl) ?_; intro wn hgn hon hbn hsn; have hS1 := hS.set hb0 hon hbn hgn; clear hS hgn hon hbn hsn hc0; have hS := hS1; clear hS1; have hc0 : wn.cell? ⟨b, 0, none⟩ = some (.int .i64 (n0 + 1)) := cell_of_row _ _ _ _ _ _ hS.cell))
  go_ret
  exact ⟨ret_bool (congrArg Prod.fst hh.out).symm, by rw [hh.out]; exact hS.drop (fun p hp => by cases hp)⟩
set_option maxRecDepth 100000 in
set_option maxHeartbeats 1000000 in
theorem judge_o (t : VT) (deep n0 : Int) (b : Nat) (w : World) (hw : C w) (hG : G ≤ b) (ht : VT.In b w t) (hcell : w.heap[b]? = some (.cells #[.int .i64 n0] 155 (0, 0))) (h0 : 0 ≤ n0) (h : n0 + 1 ≤ 4096) (hd : deep ≤ 32) (ho : ob t = false) :
    Calls Tryz.prog 109 #[.pointer (some ⟨b, 0, none⟩), .agg t.c, .int .i64 deep] w fun e w' => e = .returned (.bool (judgeT ob letC t deep n0).1) ∧ JS w w' b (judgeT ob letC t deep n0).2 [] := by
  have hh : Hid (judgeT ob letC t deep n0 = (false, n0 + 1)) := by unfold Hid; rw [judgeT_eq, if_pos (by simp [ho])]
  have h4 : decide (4096 < n0 + 1) = false := by simp; omega
  have hdb : decide (32 < deep) = false := by simp; omega
  have HO := Lib.hid (fun W (hB : Below b w W) (hz : b ≤ W.heap.size) => hown t W (hC b _ _ hG hw hB) ((ht.move hB).up hz))
  have HO := HO.out
  rw [ho] at HO
  have HO := Lib.hid HO
  have hb0 : b < w.heap.size := (Array.getElem?_eq_some_iff.1 hcell).1
  have hS : JS w (w.alloc (Obj.cells t.c 38)) b n0 [(w.heap.size, Obj.cells t.c 38)] := (JS.start w hcell).alloc _
  have hc0 : (w.alloc (Obj.cells t.c 38)).cell? ⟨b, 0, none⟩ = some (.int .i64 n0) := cell_of_row _ _ _ _ _ _ hS.cell
  clear hcell
  go_enter Tryz.func109, Tryz.ntmps109
  go_wp2_with (first | go_skip | (refine store_elem rfl 3 (.tmp 17) _ rfl b 0 (.int .i64 (n0 + 1)) rfl rfl rfl 155 _ _ hS.cell rfl (by kernel_rfl) ?_; intro wn hgn hon hbn hsn; have hS1 := hS.set hb0 hon hbn hgn; clear hS hgn hon hbn hsn hc0; have hS := hS1; clear hS1; have hc0 : wn.cell? ⟨b, 0, none⟩ = some (.int .i64 (n0 + 1)) := cell_of_row _ _ _ _ _ _ hS.cell) | (refine wpList_load_row' rfl 38 (.tmp 4) rfl _ rfl 38 _ (0, 0) _ hS.g0 Tryz.underlying38 rfl (VT.val_info _) ?_) | (go_at_call 126; with_reducible (refine (HO.out _ hS.below (Nat.le_of_lt hS.lt)).mono ?_); rintro e wn ⟨rfl, hbn⟩; have hS1 := hS.step hbn; clear hS hbn; have hS := hS1; clear hS1))
  go_ret
  exact ⟨ret_bool (congrArg Prod.fst hh.out).symm, by rw [hh.out]; exact hS.drop (fun p hp => by cases hp)⟩
set_option maxRecDepth 100000 in
set_option maxHeartbeats 4000000 in
theorem judge_l (t : VT) (deep n0 : Int) (b : Nat) (w : World) (hw : C w) (hG : G ≤ b) (ht : VT.In b w t) (ihl : ∀ i, i < t.ln → JudgeOk ob letC G C (t.lt i)) (ihm : ∀ i, i < t.mn → JudgeOk ob letC G C (t.mt i))
    (hcell : w.heap[b]? = some (.cells #[.int .i64 n0] 155 (0, 0))) (h0 : 0 ≤ n0) (h : n0 + 1 ≤ 4096) (hd1 : 1 ≤ deep) (hd : deep ≤ 32) (ho : ob t = true) :
    Calls Tryz.prog 109 #[.pointer (some ⟨b, 0, none⟩), .agg t.c, .int .i64 deep] w fun e w' => e = .returned (.bool (judgeT ob letC t deep n0).1) ∧ JS w w' b (judgeT ob letC t deep n0).2 [] := by
  have hh : Hid (judgeT ob letC t deep n0 = if (runTo (judgeL ob letC t deep) t.ln (n0 + 1)).1 then runTo (judgeM ob letC t deep) t.mn (runTo (judgeL ob letC t deep) t.ln (n0 + 1)).2 else (false, (runTo (judgeL ob letC t deep) t.ln (n0 + 1)).2)) := by
    unfold Hid; rw [judgeT_eq, if_neg (by simp [ho]; omega)]
  have h4 : decide (4096 < n0 + 1) = false := by simp; omega
  have hdb : decide (32 < deep) = false := by simp; omega
  have HT := Lib.hid ht
  have hH := ht.here
  have hll := hH.ll
  have hml := hH.ml
  have HO := Lib.hid (fun W (hB : Below b w W) (hz : b ≤ W.heap.size) => hown t W (hC b _ _ hG hw hB) ((ht.move hB).up hz))
  have HO := HO.out
  rw [ho] at HO
  have HO := Lib.hid HO
  have IL := Lib.hid ihl
  have IM := Lib.hid ihm
  clear ihl ihm ht
  have c3 : t.c[3]? = some (.slice t.lA t.ln t.lc) := rfl
  have c4 : t.c[4]? = some (.slice t.mA t.mn t.mc) := rfl
  have hb0 : b < w.heap.size := (Array.getElem?_eq_some_iff.1 hcell).1
  have hS : JS w (w.alloc (Obj.cells t.c 38)) b n0 [(w.heap.size, Obj.cells t.c 38)] := (JS.start w hcell).alloc _
  have hc0 : (w.alloc (Obj.cells t.c 38)).cell? ⟨b, 0, none⟩ = some (.int .i64 n0) := cell_of_row _ _ _ _ _ _ hS.cell
  clear hcell
  go_enter Tryz.func109, Tryz.ntmps109
  go_wp2_with (first | go_skip | (refine store_elem rfl 3 (.tmp 17) _ rfl b 0 (.int .i64 (n0 + 1)) rfl rfl rfl 155 _ _ hS.cell rfl (by kernel_rfl) ?_; intro wn hgn hon hbn hsn; have hS1 := hS.set hb0 hon hbn hgn; clear hS hgn hon hbn hsn hc0; have hS := hS1; clear hS1; have hc0 : wn.cell? ⟨b, 0, none⟩ = some (.int .i64 (n0 + 1)) := cell_of_row _ _ _ _ _ _ hS.cell) | (refine wpList_load_row' rfl 38 (.tmp 4) rfl _ rfl 38 _ (0, 0) _ hS.g0 Tryz.underlying38 rfl (VT.val_info _) ?_) | (go_at_call 126; with_reducible (refine (HO.out _ hS.below (Nat.le_of_lt hS.lt)).mono ?_); rintro e wn ⟨rfl, hbn⟩; have hS1 := hS.step hbn; clear hS hbn; have hS := hS1; clear hS1 hc0; have f3 : wn.cell? ⟨w.heap.size, 3, none⟩ = some (.slice t.lA t.ln t.lc) := (cell_of_row _ _ _ _ _ _ hS.g0).trans c3))
  go_loopw [35] (fun iv wr => ∃ (i : Nat) (m : Int), i ≤ t.ln ∧ iv = .int .i64 (i : Int) ∧ Hid (runTo (judgeL ob letC t deep) i (n0 + 1) = (true, m)) ∧ JS w wr b m [(w.heap.size, Obj.cells t.c 38)]) (fun iv _ => t.ln - (intOf iv).toNat)
  case atStart => exact ⟨0, n0 + 1, Nat.zero_le _, rfl, rfl, hS⟩
  case round =>
    clear hS f3
    rename_i wr
    obtain ⟨i, m, hi, rfl, H, hS⟩ := hrel
    have hmb : n0 + 1 ≤ m ∧ m ≤ 4096 := by
      have := runTo_bd (p := judgeL ob letC t deep) (fun i m hm' => judge_bd ob letC (t.lt i) _ m hm') i (n0 + 1) h
      rw [H.out] at this
      exact ⟨this.1, this.2 rfl⟩
    obtain ⟨hm1, hm2⟩ := hmb
    by_cases hlt : i < t.ln
    · have xa := hH.lix hlt
      have LA := Lib.hid ((hH.move hS.below).lcell i hlt)
      obtain ⟨r, m', hr⟩ : ∃ r m', judgeT ob letC (t.lt i) (deep + 1) m = (r, m') := ⟨_, _, rfl⟩
      have HR := Lib.hid hr
      have HN : Hid (runTo (judgeL ob letC t deep) (i + 1) (n0 + 1) = (r, m')) := runTo_next H.out hr
      clear hr
      have HK := Lib.hid (fun W m2 (hJ : JS w W b m2 [(w.heap.size, Obj.cells t.c 38), (wr.heap.size, Obj.cells (t.lt i).c 38)]) (hm : m2 = m) => IL.out i hlt (deep + 1) m b W (hC b _ _ hG hw hJ.below) hG ((HT.out.l i hlt).move hJ.below) (hm ▸ hJ.cell) (by omega) hm2 (by omega) (by omega))
      cases r
      · have hf : Hid (judgeT ob letC t deep n0 = (false, m')) := by
          unfold Hid
          have := runTo_false hlt H.out (show judgeL ob letC t deep i m = (false, m') from HR.out)
          rw [hh.out, this]; rfl
        go_wp2_with (first | go_skip | (refine load_cells rfl 38 (.tmp 37) rfl _ _ rfl _ _ LA.out Tryz.underlying38 rfl (VT.val_info _) ?_) | (refine wpList_store_row rfl 38 (.tmp 8) (.tmp 38) rfl _ (t.lt i).c rfl rfl 38 _ (heap_alloc_new _ _) (VT.val_info _) rfl (VT.c_one _) ?_; intro wn hbn hgn hon hsn; have hS1 := hS.box hon hbn hgn; clear hS hbn hgn hon hsn; have hS := hS1; clear hS1) | (refine wpList_load_row' rfl 38 (.tmp 8) rfl _ rfl 38 _ (0, 0) _ hS.g1 Tryz.underlying38 rfl (VT.val_info _) ?_) | (go_at_call 109; refine (HK.out _ _ hS rfl).mono ?_; rw [HR.out]; rintro e wn ⟨rfl, hJ⟩; have hS1 := hS.call hb0 hJ; clear hS hJ; have hS := hS1; clear hS1))
        go_ret
        exact ⟨ret_bool (congrArg Prod.fst hf.out).symm, by rw [hf.out]; exact hS.drop (fun p hp => by cases hp)⟩
      · have hbd : Hid (m' ≤ 4096) := by
          have := judge_bd ob letC (t.lt i) (deep + 1) m hm2
          rw [HR.out] at this
          exact this.2 rfl
        go_wp2_with (first | go_skip | (refine load_cells rfl 38 (.tmp 37) rfl _ _ rfl _ _ LA.out Tryz.underlying38 rfl (VT.val_info _) ?_) | (refine wpList_store_row rfl 38 (.tmp 8) (.tmp 38) rfl _ (t.lt i).c rfl rfl 38 _ (heap_alloc_new _ _) (VT.val_info _) rfl (VT.c_one _) ?_; intro wn hbn hgn hon hsn; have hS1 := hS.box hon hbn hgn; clear hS hbn hgn hon hsn; have hS := hS1; clear hS1) | (refine wpList_load_row' rfl 38 (.tmp 8) rfl _ rfl 38 _ (0, 0) _ hS.g1 Tryz.underlying38 rfl (VT.val_info _) ?_) | (go_at_call 109; refine (HK.out _ _ hS rfl).mono ?_; rw [HR.out]; rintro e wn ⟨rfl, hJ⟩; have hS1 := hS.call hb0 hJ; clear hS hJ; have hS := hS1; clear hS1))
        go_roundw
        case rel => exact ⟨i + 1, m', by omega, by go_num, HN, hS.drop (fun p hp => by simp at hp ⊢; exact Or.inl hp)⟩
        case measure => simp [intOf]; omega
    · obtain rfl : i = t.ln := by omega
      have hh : Hid (judgeT ob letC t deep n0 = runTo (judgeM ob letC t deep) t.mn m) := by unfold Hid; rw [hh.out, H.out]; rfl
      clear H
      have f4 : wr.cell? ⟨w.heap.size, 4, none⟩ = some (.slice t.mA t.mn t.mc) := (cell_of_row _ _ _ _ _ _ hS.g0).trans c4
      obtain ⟨n1, rfl⟩ : ∃ n1 : Int, n1 = m := ⟨_, rfl⟩
      go_wp2_with fail
      clear f4
      obtain ⟨wo, rfl⟩ : ∃ wo : World, wo = wr := ⟨_, rfl⟩
      go_loopw [49] (fun iv wr => ∃ (i : Nat) (m : Int), i ≤ t.mn ∧ iv = .int .i64 (i : Int) ∧ Hid (runTo (judgeM ob letC t deep) i n1 = (true, m)) ∧ JS w wr b m [(w.heap.size, Obj.cells t.c 38)]) (fun iv _ => t.mn - (intOf iv).toNat)
      case atStart => exact ⟨0, n1, Nat.zero_le _, rfl, rfl, hS⟩
      case round =>
        clear hS
        rename_i wr
        obtain ⟨i, m, hi, rfl, H, hS⟩ := hrel
        have hmb : n1 ≤ m ∧ m ≤ 4096 := by
          have := runTo_bd (p := judgeM ob letC t deep) (fun i m hm' => by
            unfold judgeM
            split
            · exact ⟨Int.le_refl _, fun h => by cases h⟩
            · exact judge_bd ob letC (t.mt i) _ m hm') i n1 hm2
          rw [H.out] at this
          exact ⟨this.1, this.2 rfl⟩
        clear hm2
        obtain ⟨hm3, hm2⟩ := hmb
        have hwd : IntKind.i64.wrap (deep + 1) = deep + 1 := IntWalk.i64_in _ (by omega)
        have hwi : IntKind.i64.wrap ((i : Int) - 1) = (i : Int) - 1 := IntWalk.i64_in _ (by omega)
        by_cases hlt : i < t.mn
        · have xa := hH.mix hlt
          have LA := Lib.hid ((hH.move hS.below).mcell i hlt)
          by_cases hz : i = 0
          · have hz1 : decide ((0 : Int) < i) = false := by simp; omega
            have hz2 : decide (0 < i) = false := by simp; omega
            have hz3 := Lib.hid hz
            clear hz
            cases hl : (letC (t.key i) == 0)
            · have hl2 : (letC (t.key i) != 0) = true := by rw [bne, hl]; rfl
              have hf : Hid (judgeT ob letC t deep n0 = (false, m)) := by
                unfold Hid
                rw [hh.out, runTo_false hlt H.out (m' := m)]
                unfold judgeM
                rw [if_pos (by simp [hl])]
              go_wp2_with (first | go_skip | (refine load_cells rfl 82 (.tmp 52) rfl _ _ rfl _ _ LA.out Tryz.underlying82 rfl (VT.pair_info _ _) ?_) | (refine wpList_store_row rfl 82 (.tmp 10) (.tmp 53) rfl _ (t.pc i) rfl rfl 82 _ (heap_alloc_new _ _) (VT.pair_info _ _) rfl (VT.pc_one _ _) ?_; intro wn hbn hgn hon hsn; have hS1 := hS.box hon hbn hgn; clear hS hbn hgn hon hsn; have hS := hS1; clear hS1))
              have q0 : wn.cell? ⟨wr.heap.size, 0, none⟩ = some (.string (t.key i)) := cell_of_row _ _ _ _ _ _ hS.g1
              have q4 : wn.cell? ⟨w.heap.size, 4, none⟩ = some (.slice t.mA t.mn t.mc) := cell_of_row _ _ _ _ _ _ hS.g0
              have k0 := cell_regrown q0
              have k4 := cell_regrown q4
              have LV := Lib.hid (cells_regrown (w := wn) (b := wr.heap.size) (i := 1) (cs := (t.mt i).c) (fun j v hv => by
                rw [cell_of_row _ _ _ _ _ _ hS.g1, show 1 + j = j + 1 by omega, ← hv]; simp [VT.pc, VT.c]))
              have cL := grown_calls (w := wn) (fun W hW => hlet (t.key i) W (hC b _ _ hG hw (hS.below.trans (hW.mono (Nat.le_of_lt hS.lt)))) (hH.kl i hlt))
              skip
              refine wp_region_tail_below 26 (by kernel_rfl) (by kernel_rfl) (by kernel_rfl) (by decide) (by kernel_rfl) ?_; simp only [List.take_succ_cons, List.take_zero, List.drop_succ_cons, List.drop_zero]
              repeat (first | go_big_quiet_skip | (refine BigFrame.wpQuiet_want rfl (fun K hK => ?_); refine quiet_load_cells 38 (.tmp 76) rfl _ _ rfl _ _ LV.out Tryz.underlying38 rfl (VT.val_info _) ?_; refine hK _ ?_; clear hK K) | (quiet_step (with_reducible exact cL _ _)))
              refine wpQuiet_nil ?_; rintro wq ⟨⟨dq, osq⟩, rfl⟩; have hbq := below_regrown wn dq osq; generalize Go.Sort.grow (redrawn wn dq) osq = wq at *
              have hS1 := hS.step hbq
              clear hS hbq q0 q4 k0 k4 LV cL
              have hS := hS1
              clear hS1
              go_wp2_with (first | go_skip | fail)
              go_ret
              exact ⟨ret_bool (congrArg Prod.fst hf.out).symm, by rw [hf.out]; exact hS.drop (fun p hp => by cases hp)⟩
            · have hl2 : (letC (t.key i) != 0) = false := by rw [bne, hl]; rfl
              obtain ⟨r, m', hr⟩ : ∃ r m', judgeT ob letC (t.mt i) (deep + 1) m = (r, m') := ⟨_, _, rfl⟩
              have HR := Lib.hid hr
              have hpm : judgeM ob letC t deep i m = (r, m') := by
                unfold judgeM
                rw [if_neg (by rw [hz2, hl]; simp)]
                exact hr
              have HP := Lib.hid hpm
              clear hr hpm
              have HK := Lib.hid (fun W m2 (hJ : JS w W b m2 [(w.heap.size, Obj.cells t.c 38), (wr.heap.size, Obj.cells (t.pc i) 82)]) (hm : m2 = m) => IM.out i hlt (deep + 1) m b W (hC b _ _ hG hw hJ.below) hG ((HT.out.m i hlt).move hJ.below) (hm ▸ hJ.cell) (by omega) hm2 (by omega) (by omega))
              cases r
              · have hf : Hid (judgeT ob letC t deep n0 = (false, m')) := by
                  unfold Hid
                  rw [hh.out, runTo_false hlt H.out HP.out]
                go_wp2_with (first | go_skip | (refine load_cells rfl 82 (.tmp 52) rfl _ _ rfl _ _ LA.out Tryz.underlying82 rfl (VT.pair_info _ _) ?_) | (refine wpList_store_row rfl 82 (.tmp 10) (.tmp 53) rfl _ (t.pc i) rfl rfl 82 _ (heap_alloc_new _ _) (VT.pair_info _ _) rfl (VT.pc_one _ _) ?_; intro wn hbn hgn hon hsn; have hS1 := hS.box hon hbn hgn; clear hS hbn hgn hon hsn; have hS := hS1; clear hS1))
                have q0 : wn.cell? ⟨wr.heap.size, 0, none⟩ = some (.string (t.key i)) := cell_of_row _ _ _ _ _ _ hS.g1
                have q4 : wn.cell? ⟨w.heap.size, 4, none⟩ = some (.slice t.mA t.mn t.mc) := cell_of_row _ _ _ _ _ _ hS.g0
                have k0 := cell_regrown q0
                have k4 := cell_regrown q4
                have LV := Lib.hid (cells_regrown (w := wn) (b := wr.heap.size) (i := 1) (cs := (t.mt i).c) (fun j v hv => by
                  rw [cell_of_row _ _ _ _ _ _ hS.g1, show 1 + j = j + 1 by omega, ← hv]; simp [VT.pc, VT.c]))
                have cL := grown_calls (w := wn) (fun W hW => hlet (t.key i) W (hC b _ _ hG hw (hS.below.trans (hW.mono (Nat.le_of_lt hS.lt)))) (hH.kl i hlt))
                skip
                refine wp_region_tail_below 26 (by kernel_rfl) (by kernel_rfl) (by kernel_rfl) (by decide) (by kernel_rfl) ?_; simp only [List.take_succ_cons, List.take_zero, List.drop_succ_cons, List.drop_zero]
                repeat (first | go_big_quiet_skip | (refine BigFrame.wpQuiet_want rfl (fun K hK => ?_); refine quiet_load_cells 38 (.tmp 76) rfl _ _ rfl _ _ LV.out Tryz.underlying38 rfl (VT.val_info _) ?_; refine hK _ ?_; clear hK K) | (quiet_step (with_reducible exact cL _ _)))
                refine wpQuiet_nil ?_; rintro wq ⟨⟨dq, osq⟩, rfl⟩; have hbq := below_regrown wn dq osq; generalize Go.Sort.grow (redrawn wn dq) osq = wq at *
                have hS1 := hS.step hbq
                clear hS hbq q0 q4 k0 k4 LV cL
                have hS := hS1
                clear hS1
                go_wp2_with (first | go_skip | (go_at_call 109; refine (HK.out _ _ hS rfl).mono ?_; rw [HR.out]; rintro e wn ⟨rfl, hJ⟩; have hS1 := hS.call hb0 hJ; clear hS hJ; have hS := hS1; clear hS1))
                go_ret
                exact ⟨ret_bool (congrArg Prod.fst hf.out).symm, by rw [hf.out]; exact hS.drop (fun p hp => by cases hp)⟩
              · have HN := Lib.hid (runTo_next H.out HP.out)
                go_wp2_with (first | go_skip | (refine load_cells rfl 82 (.tmp 52) rfl _ _ rfl _ _ LA.out Tryz.underlying82 rfl (VT.pair_info _ _) ?_) | (refine wpList_store_row rfl 82 (.tmp 10) (.tmp 53) rfl _ (t.pc i) rfl rfl 82 _ (heap_alloc_new _ _) (VT.pair_info _ _) rfl (VT.pc_one _ _) ?_; intro wn hbn hgn hon hsn; have hS1 := hS.box hon hbn hgn; clear hS hbn hgn hon hsn; have hS := hS1; clear hS1))
                have q0 : wn.cell? ⟨wr.heap.size, 0, none⟩ = some (.string (t.key i)) := cell_of_row _ _ _ _ _ _ hS.g1
                have q4 : wn.cell? ⟨w.heap.size, 4, none⟩ = some (.slice t.mA t.mn t.mc) := cell_of_row _ _ _ _ _ _ hS.g0
                have k0 := cell_regrown q0
                have k4 := cell_regrown q4
                have LV := Lib.hid (cells_regrown (w := wn) (b := wr.heap.size) (i := 1) (cs := (t.mt i).c) (fun j v hv => by
                  rw [cell_of_row _ _ _ _ _ _ hS.g1, show 1 + j = j + 1 by omega, ← hv]; simp [VT.pc, VT.c]))
                have cL := grown_calls (w := wn) (fun W hW => hlet (t.key i) W (hC b _ _ hG hw (hS.below.trans (hW.mono (Nat.le_of_lt hS.lt)))) (hH.kl i hlt))
                skip
                refine wp_region_tail_below 26 (by kernel_rfl) (by kernel_rfl) (by kernel_rfl) (by decide) (by kernel_rfl) ?_; simp only [List.take_succ_cons, List.take_zero, List.drop_succ_cons, List.drop_zero]
                repeat (first | go_big_quiet_skip | (refine BigFrame.wpQuiet_want rfl (fun K hK => ?_); refine quiet_load_cells 38 (.tmp 76) rfl _ _ rfl _ _ LV.out Tryz.underlying38 rfl (VT.val_info _) ?_; refine hK _ ?_; clear hK K) | (quiet_step (with_reducible exact cL _ _)))
                refine wpQuiet_nil ?_; rintro wq ⟨⟨dq, osq⟩, rfl⟩; have hbq := below_regrown wn dq osq; generalize Go.Sort.grow (redrawn wn dq) osq = wq at *
                have hS1 := hS.step hbq
                clear hS hbq q0 q4 k0 k4 LV cL
                have hS := hS1
                clear hS1
                go_wp2_with (first | go_skip | (go_at_call 109; refine (HK.out _ _ hS rfl).mono ?_; rw [HR.out]; rintro e wn ⟨rfl, hJ⟩; have hS1 := hS.call hb0 hJ; clear hS hJ; have hS := hS1; clear hS1))
                go_roundw
                case rel => exact ⟨i + 1, m', by omega, by go_num, HN.out, hS.drop (fun p hp => by simp at hp ⊢; exact Or.inl hp)⟩
                case measure => simp [intOf]; omega
          · have hz1 : decide ((0 : Int) < i) = true := by simp; omega
            have hz2 : decide (0 < i) = true := by simp; omega
            have hz3 : 0 < i := by omega
            have KJ := Lib.hid (show ∀ W, (Instr.indexAt 36 (.slice t.mA t.mn t.mc) (.int .i64 ((i : Int) - 1))).run Tryz.prog W = .ok (.pointer (some ⟨t.mb, t.mo + (i - 1) * 6, none⟩)) W from fun W => by
              rw [show (i : Int) - 1 = ((i - 1 : Nat) : Int) by omega]; exact hH.mix (by omega) W)
            clear hz
            cases hb1 : Op.bytesLess (t.key i).toList (t.key (i - 1)).toList
            · cases hb2 : ((t.key i).toList == (t.key (i - 1)).toList)
              · cases hl : (letC (t.key i) == 0)
                · have hl2 : (letC (t.key i) != 0) = true := by rw [bne, hl]; rfl
                  have hf : Hid (judgeT ob letC t deep n0 = (false, m)) := by
                    unfold Hid
                    rw [hh.out, runTo_false hlt H.out (m' := m)]
                    unfold judgeM
                    rw [if_pos (by simp [hl])]
                  go_wp2_with (first | go_skip | (refine load_cells rfl 82 (.tmp 52) rfl _ _ rfl _ _ LA.out Tryz.underlying82 rfl (VT.pair_info _ _) ?_) | (refine wpList_store_row rfl 82 (.tmp 10) (.tmp 53) rfl _ (t.pc i) rfl rfl 82 _ (heap_alloc_new _ _) (VT.pair_info _ _) rfl (VT.pc_one _ _) ?_; intro wn hbn hgn hon hsn; have hS1 := hS.box hon hbn hgn; clear hS hbn hgn hon hsn; have hS := hS1; clear hS1))
                  have q0 : wn.cell? ⟨wr.heap.size, 0, none⟩ = some (.string (t.key i)) := cell_of_row _ _ _ _ _ _ hS.g1
                  have q4 : wn.cell? ⟨w.heap.size, 4, none⟩ = some (.slice t.mA t.mn t.mc) := cell_of_row _ _ _ _ _ _ hS.g0
                  have k0 := cell_regrown q0
                  have k4 := cell_regrown q4
                  have LV := Lib.hid (cells_regrown (w := wn) (b := wr.heap.size) (i := 1) (cs := (t.mt i).c) (fun j v hv => by
                    rw [cell_of_row _ _ _ _ _ _ hS.g1, show 1 + j = j + 1 by omega, ← hv]; simp [VT.pc, VT.c]))
                  have cL := grown_calls (w := wn) (fun W hW => hlet (t.key i) W (hC b _ _ hG hw (hS.below.trans (hW.mono (Nat.le_of_lt hS.lt)))) (hH.kl i hlt))
                  have xj := KJ.out; have qk := cell_regrown (w := wn) ((hH.move hS.below).mkey (i := i - 1) (by omega))
                  refine wp_region_tail_below 26 (by kernel_rfl) (by kernel_rfl) (by kernel_rfl) (by decide) (by kernel_rfl) ?_; simp only [List.take_succ_cons, List.take_zero, List.drop_succ_cons, List.drop_zero]
                  repeat (first | go_big_quiet_skip | (refine BigFrame.wpQuiet_want rfl (fun K hK => ?_); refine quiet_load_cells 38 (.tmp 76) rfl _ _ rfl _ _ LV.out Tryz.underlying38 rfl (VT.val_info _) ?_; refine hK _ ?_; clear hK K) | (quiet_step (with_reducible exact cL _ _)))
                  refine wpQuiet_nil ?_; rintro wq ⟨⟨dq, osq⟩, rfl⟩; have hbq := below_regrown wn dq osq; generalize Go.Sort.grow (redrawn wn dq) osq = wq at *
                  have hS1 := hS.step hbq
                  clear hS hbq q0 q4 k0 k4 LV cL
                  have hS := hS1
                  clear hS1
                  go_wp2_with (first | go_skip | fail)
                  go_ret
                  exact ⟨ret_bool (congrArg Prod.fst hf.out).symm, by rw [hf.out]; exact hS.drop (fun p hp => by cases hp)⟩
                · have hl2 : (letC (t.key i) != 0) = false := by rw [bne, hl]; rfl
                  obtain ⟨r, m', hr⟩ : ∃ r m', judgeT ob letC (t.mt i) (deep + 1) m = (r, m') := ⟨_, _, rfl⟩
                  have HR := Lib.hid hr
                  have hpm : judgeM ob letC t deep i m = (r, m') := by
                    unfold judgeM
                    rw [if_neg (by simp [hl, risesB, hb1, hb2])]
                    exact hr
                  have HP := Lib.hid hpm
                  clear hr hpm
                  have HK := Lib.hid (fun W m2 (hJ : JS w W b m2 [(w.heap.size, Obj.cells t.c 38), (wr.heap.size, Obj.cells (t.pc i) 82)]) (hm : m2 = m) => IM.out i hlt (deep + 1) m b W (hC b _ _ hG hw hJ.below) hG ((HT.out.m i hlt).move hJ.below) (hm ▸ hJ.cell) (by omega) hm2 (by omega) (by omega))
                  cases r
                  · have hf : Hid (judgeT ob letC t deep n0 = (false, m')) := by
                      unfold Hid
                      rw [hh.out, runTo_false hlt H.out HP.out]
                    go_wp2_with (first | go_skip | (refine load_cells rfl 82 (.tmp 52) rfl _ _ rfl _ _ LA.out Tryz.underlying82 rfl (VT.pair_info _ _) ?_) | (refine wpList_store_row rfl 82 (.tmp 10) (.tmp 53) rfl _ (t.pc i) rfl rfl 82 _ (heap_alloc_new _ _) (VT.pair_info _ _) rfl (VT.pc_one _ _) ?_; intro wn hbn hgn hon hsn; have hS1 := hS.box hon hbn hgn; clear hS hbn hgn hon hsn; have hS := hS1; clear hS1))
                    have q0 : wn.cell? ⟨wr.heap.size, 0, none⟩ = some (.string (t.key i)) := cell_of_row _ _ _ _ _ _ hS.g1
                    have q4 : wn.cell? ⟨w.heap.size, 4, none⟩ = some (.slice t.mA t.mn t.mc) := cell_of_row _ _ _ _ _ _ hS.g0
                    have k0 := cell_regrown q0
                    have k4 := cell_regrown q4
                    have LV := Lib.hid (cells_regrown (w := wn) (b := wr.heap.size) (i := 1) (cs := (t.mt i).c) (fun j v hv => by
                      rw [cell_of_row _ _ _ _ _ _ hS.g1, show 1 + j = j + 1 by omega, ← hv]; simp [VT.pc, VT.c]))
                    have cL := grown_calls (w := wn) (fun W hW => hlet (t.key i) W (hC b _ _ hG hw (hS.below.trans (hW.mono (Nat.le_of_lt hS.lt)))) (hH.kl i hlt))
                    have xj := KJ.out; have qk := cell_regrown (w := wn) ((hH.move hS.below).mkey (i := i - 1) (by omega))
                    refine wp_region_tail_below 26 (by kernel_rfl) (by kernel_rfl) (by kernel_rfl) (by decide) (by kernel_rfl) ?_; simp only [List.take_succ_cons, List.take_zero, List.drop_succ_cons, List.drop_zero]
                    repeat (first | go_big_quiet_skip | (refine BigFrame.wpQuiet_want rfl (fun K hK => ?_); refine quiet_load_cells 38 (.tmp 76) rfl _ _ rfl _ _ LV.out Tryz.underlying38 rfl (VT.val_info _) ?_; refine hK _ ?_; clear hK K) | (quiet_step (with_reducible exact cL _ _)))
                    refine wpQuiet_nil ?_; rintro wq ⟨⟨dq, osq⟩, rfl⟩; have hbq := below_regrown wn dq osq; generalize Go.Sort.grow (redrawn wn dq) osq = wq at *
                    have hS1 := hS.step hbq
                    clear hS hbq q0 q4 k0 k4 LV cL
                    have hS := hS1
                    clear hS1
                    go_wp2_with (first | go_skip | (go_at_call 109; refine (HK.out _ _ hS rfl).mono ?_; rw [HR.out]; rintro e wn ⟨rfl, hJ⟩; have hS1 := hS.call hb0 hJ; clear hS hJ; have hS := hS1; clear hS1))
                    go_ret
                    exact ⟨ret_bool (congrArg Prod.fst hf.out).symm, by rw [hf.out]; exact hS.drop (fun p hp => by cases hp)⟩
                  · have HN := Lib.hid (runTo_next H.out HP.out)
                    go_wp2_with (first | go_skip | (refine load_cells rfl 82 (.tmp 52) rfl _ _ rfl _ _ LA.out Tryz.underlying82 rfl (VT.pair_info _ _) ?_) | (refine wpList_store_row rfl 82 (.tmp 10) (.tmp 53) rfl _ (t.pc i) rfl rfl 82 _ (heap_alloc_new _ _) (VT.pair_info _ _) rfl (VT.pc_one _ _) ?_; intro wn hbn hgn hon hsn; have hS1 := hS.box hon hbn hgn; clear hS hbn hgn hon hsn; have hS := hS1; clear hS1))
                    have q0 : wn.cell? ⟨wr.heap.size, 0, none⟩ = some (.string (t.key i)) := cell_of_row _ _ _ _ _ _ hS.g1
                    have q4 : wn.cell? ⟨w.heap.size, 4, none⟩ = some (.slice t.mA t.mn t.mc) := cell_of_row _ _ _ _ _ _ hS.g0
                    have k0 := cell_regrown q0
                    have k4 := cell_regrown q4
                    have LV := Lib.hid (cells_regrown (w := wn) (b := wr.heap.size) (i := 1) (cs := (t.mt i).c) (fun j v hv => by
                      rw [cell_of_row _ _ _ _ _ _ hS.g1, show 1 + j = j + 1 by omega, ← hv]; simp [VT.pc, VT.c]))
                    have cL := grown_calls (w := wn) (fun W hW => hlet (t.key i) W (hC b _ _ hG hw (hS.below.trans (hW.mono (Nat.le_of_lt hS.lt)))) (hH.kl i hlt))
                    have xj := KJ.out; have qk := cell_regrown (w := wn) ((hH.move hS.below).mkey (i := i - 1) (by omega))
                    refine wp_region_tail_below 26 (by kernel_rfl) (by kernel_rfl) (by kernel_rfl) (by decide) (by kernel_rfl) ?_; simp only [List.take_succ_cons, List.take_zero, List.drop_succ_cons, List.drop_zero]
                    repeat (first | go_big_quiet_skip | (refine BigFrame.wpQuiet_want rfl (fun K hK => ?_); refine quiet_load_cells 38 (.tmp 76) rfl _ _ rfl _ _ LV.out Tryz.underlying38 rfl (VT.val_info _) ?_; refine hK _ ?_; clear hK K) | (quiet_step (with_reducible exact cL _ _)))
                    refine wpQuiet_nil ?_; rintro wq ⟨⟨dq, osq⟩, rfl⟩; have hbq := below_regrown wn dq osq; generalize Go.Sort.grow (redrawn wn dq) osq = wq at *
                    have hS1 := hS.step hbq
                    clear hS hbq q0 q4 k0 k4 LV cL
                    have hS := hS1
                    clear hS1
                    go_wp2_with (first | go_skip | (go_at_call 109; refine (HK.out _ _ hS rfl).mono ?_; rw [HR.out]; rintro e wn ⟨rfl, hJ⟩; have hS1 := hS.call hb0 hJ; clear hS hJ; have hS := hS1; clear hS1))
                    go_roundw
                    case rel => exact ⟨i + 1, m', by omega, by go_num, HN.out, hS.drop (fun p hp => by simp at hp ⊢; exact Or.inl hp)⟩
                    case measure => simp [intOf]; omega
              · have hf : Hid (judgeT ob letC t deep n0 = (false, m)) := by
                  unfold Hid
                  rw [hh.out, runTo_false hlt H.out (m' := m)]
                  unfold judgeM
                  rw [if_pos (by simp [risesB, hb1, hb2, hz3])]
                go_wp2_with (first | go_skip | (refine load_cells rfl 82 (.tmp 52) rfl _ _ rfl _ _ LA.out Tryz.underlying82 rfl (VT.pair_info _ _) ?_) | (refine wpList_store_row rfl 82 (.tmp 10) (.tmp 53) rfl _ (t.pc i) rfl rfl 82 _ (heap_alloc_new _ _) (VT.pair_info _ _) rfl (VT.pc_one _ _) ?_; intro wn hbn hgn hon hsn; have hS1 := hS.box hon hbn hgn; clear hS hbn hgn hon hsn; have hS := hS1; clear hS1))
                have q0 : wn.cell? ⟨wr.heap.size, 0, none⟩ = some (.string (t.key i)) := cell_of_row _ _ _ _ _ _ hS.g1
                have q4 : wn.cell? ⟨w.heap.size, 4, none⟩ = some (.slice t.mA t.mn t.mc) := cell_of_row _ _ _ _ _ _ hS.g0
                have k0 := cell_regrown q0
                have k4 := cell_regrown q4
                have LV := Lib.hid (cells_regrown (w := wn) (b := wr.heap.size) (i := 1) (cs := (t.mt i).c) (fun j v hv => by
                  rw [cell_of_row _ _ _ _ _ _ hS.g1, show 1 + j = j + 1 by omega, ← hv]; simp [VT.pc, VT.c]))
                have cL := grown_calls (w := wn) (fun W hW => hlet (t.key i) W (hC b _ _ hG hw (hS.below.trans (hW.mono (Nat.le_of_lt hS.lt)))) (hH.kl i hlt))
                have xj := KJ.out; have qk := cell_regrown (w := wn) ((hH.move hS.below).mkey (i := i - 1) (by omega))
                refine wp_region_tail_below 26 (by kernel_rfl) (by kernel_rfl) (by kernel_rfl) (by decide) (by kernel_rfl) ?_; simp only [List.take_succ_cons, List.take_zero, List.drop_succ_cons, List.drop_zero]
                repeat (first | go_big_quiet_skip | (refine BigFrame.wpQuiet_want rfl (fun K hK => ?_); refine quiet_load_cells 38 (.tmp 76) rfl _ _ rfl _ _ LV.out Tryz.underlying38 rfl (VT.val_info _) ?_; refine hK _ ?_; clear hK K) | (quiet_step (with_reducible exact cL _ _)))
                refine wpQuiet_nil ?_; rintro wq ⟨⟨dq, osq⟩, rfl⟩; have hbq := below_regrown wn dq osq; generalize Go.Sort.grow (redrawn wn dq) osq = wq at *
                have hS1 := hS.step hbq
                clear hS hbq q0 q4 k0 k4 LV cL
                have hS := hS1
                clear hS1
                go_wp2_with (first | go_skip | fail)
                go_ret
                exact ⟨ret_bool (congrArg Prod.fst hf.out).symm, by rw [hf.out]; exact hS.drop (fun p hp => by cases hp)⟩
            · have hf : Hid (judgeT ob letC t deep n0 = (false, m)) := by
                unfold Hid
                rw [hh.out, runTo_false hlt H.out (m' := m)]
                unfold judgeM
                rw [if_pos (by simp [risesB, hb1, hz3])]
              go_wp2_with (first | go_skip | (refine load_cells rfl 82 (.tmp 52) rfl _ _ rfl _ _ LA.out Tryz.underlying82 rfl (VT.pair_info _ _) ?_) | (refine wpList_store_row rfl 82 (.tmp 10) (.tmp 53) rfl _ (t.pc i) rfl rfl 82 _ (heap_alloc_new _ _) (VT.pair_info _ _) rfl (VT.pc_one _ _) ?_; intro wn hbn hgn hon hsn; have hS1 := hS.box hon hbn hgn; clear hS hbn hgn hon hsn; have hS := hS1; clear hS1))
              have q0 : wn.cell? ⟨wr.heap.size, 0, none⟩ = some (.string (t.key i)) := cell_of_row _ _ _ _ _ _ hS.g1
              have q4 : wn.cell? ⟨w.heap.size, 4, none⟩ = some (.slice t.mA t.mn t.mc) := cell_of_row _ _ _ _ _ _ hS.g0
              have k0 := cell_regrown q0
              have k4 := cell_regrown q4
              have LV := Lib.hid (cells_regrown (w := wn) (b := wr.heap.size) (i := 1) (cs := (t.mt i).c) (fun j v hv => by
                rw [cell_of_row _ _ _ _ _ _ hS.g1, show 1 + j = j + 1 by omega, ← hv]; simp [VT.pc, VT.c]))
              have cL := grown_calls (w := wn) (fun W hW => hlet (t.key i) W (hC b _ _ hG hw (hS.below.trans (hW.mono (Nat.le_of_lt hS.lt)))) (hH.kl i hlt))
              have xj := KJ.out; have qk := cell_regrown (w := wn) ((hH.move hS.below).mkey (i := i - 1) (by omega))
              refine wp_region_tail_below 26 (by kernel_rfl) (by kernel_rfl) (by kernel_rfl) (by decide) (by kernel_rfl) ?_; simp only [List.take_succ_cons, List.take_zero, List.drop_succ_cons, List.drop_zero]
              repeat (first | go_big_quiet_skip | (refine BigFrame.wpQuiet_want rfl (fun K hK => ?_); refine quiet_load_cells 38 (.tmp 76) rfl _ _ rfl _ _ LV.out Tryz.underlying38 rfl (VT.val_info _) ?_; refine hK _ ?_; clear hK K) | (quiet_step (with_reducible exact cL _ _)))
              refine wpQuiet_nil ?_; rintro wq ⟨⟨dq, osq⟩, rfl⟩; have hbq := below_regrown wn dq osq; generalize Go.Sort.grow (redrawn wn dq) osq = wq at *
              have hS1 := hS.step hbq
              clear hS hbq q0 q4 k0 k4 LV cL
              have hS := hS1
              clear hS1
              go_wp2_with (first | go_skip | fail)
              go_ret
              exact ⟨ret_bool (congrArg Prod.fst hf.out).symm, by rw [hf.out]; exact hS.drop (fun p hp => by cases hp)⟩
        · obtain rfl : i = t.mn := by omega
          go_wp2_with fail
          go_ret
          have hf : judgeT ob letC t deep n0 = (true, m) := hh.out.trans H.out
          exact ⟨ret_bool (congrArg Prod.fst hf).symm, by rw [hf]; exact hS.drop (fun p hp => by cases hp)⟩
theorem judge_all (t : VT) : JudgeOk ob letC G C t := by
  have key : ∀ t : VT, (∀ i, i < t.ln → JudgeOk ob letC G C (t.lt i)) → (∀ i, i < t.mn → JudgeOk ob letC G C (t.mt i)) → JudgeOk ob letC G C t := by
    intro t ihl ihm deep n0 b w hw hG ht hcell h0 h1 d0 d1
    by_cases h4 : 4096 < n0 + 1
    · exact judge_n ob letC G C hC hown hlet t deep n0 b w hcell h0 h4 h1
    by_cases hd : 32 < deep
    · exact judge_d ob letC G C hC hown hlet t deep n0 b w hcell h0 (by omega) hd
    cases ho : ob t
    · exact judge_o ob letC G C hC hown hlet t deep n0 b w hw hG ht hcell h0 (by omega) (by omega) ho
    · exact judge_l ob letC G C hC hown hlet t deep n0 b w hw hG ht ihl ihm hcell h0 (by omega) d0 (by omega) ho
  induction t with
  | no => exact key .no (fun i hi => absurd hi (Nat.not_lt_zero i)) (fun i hi => absurd hi (Nat.not_lt_zero i))
  | mk k n s lA lb lo ln lc lt mA mb mo mn mc ky mt ihl ihm => exact key _ (fun i _ => ihl i) (fun i _ => ihm i)
set_option maxHeartbeats 1000000 in
theorem vGood_any (t : VT) (w : World) (hw : C w) (hG : G ≤ w.heap.size) (ht : VT.In w.heap.size w t) : Calls Tryz.prog 95 #[.agg t.c] w fun e w' => e = .returned (.bool (judgeT ob letC t 1 0).1) ∧ Below w.heap.size w w' := by
  have H := Lib.hid (fun (W : World) (b : Nat) (hb : w.heap.size ≤ b) (hW : Below w.heap.size w W) (hcell : W.heap[b]? = some (.cells #[.int .i64 0] 155 (0, 0))) =>
    judge_all ob letC G C hC hown hlet t 1 0 b W (hC _ _ _ hG hw hW) (Nat.le_trans hG hb) ((ht.move hW).up hb) hcell (by omega) (by omega) (by omega) (by omega))
  have hS0 : Sees w ((w.alloc (Obj.cells t.c 38)).alloc (Obj.cells #[.int .i64 0] 155)) [(w.heap.size, Obj.cells t.c 38), (w.heap.size + 1, Obj.cells #[.int .i64 0] 155)] := by
    have := ((Sees.start w).alloc (Obj.cells t.c 38)).alloc (Obj.cells #[.int .i64 0] 155)
    simpa using this
  go_enter Tryz.func95, Tryz.ntmps95
  go_wp2_with (first | go_skip | (refine wpList_load_row' rfl 38 (.tmp 1) rfl _ rfl 38 _ (0, 0) _ hS0.g0 Tryz.underlying38 rfl (VT.val_info _) ?_) | (go_at_call 109; refine (H.out _ _ (Nat.le_succ _) hS0.below hS0.g1).mono ?_; rintro e w1 ⟨rfl, hJ⟩))
  go_ret
  exact ⟨ret_bool rfl, hS0.below.trans (hJ.below.mono (Nat.le_succ _))⟩
end
end Go.Proofs.YtffcpmohanhihaaGreatDoor
