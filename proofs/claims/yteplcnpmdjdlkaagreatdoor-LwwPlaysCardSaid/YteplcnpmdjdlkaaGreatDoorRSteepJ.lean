/-
  The reference's steep, Heavy tell what is written here, for all trees. No condition.
-/
import Derived.Test.YteplcnpmdjdlkaaGreatDoorJudgeWJ
import Derived.Test.YteplcnpmdjdlkaaGreatDoorJ10
namespace Go.Proofs.YteplcnpmdjdlkaaGreatDoor
open Go.RowKit
set_option linter.unusedVariables false
set_option linter.unusedSimpArgs false
set_option linter.unusedSectionVars false
def foldO (p : Nat → Int → Option Int) : Nat → Int → Option Int
  | 0, n => some n
  | k + 1, n => (foldO p k n).bind (p k)
theorem foldO_stop {p : Nat → Int → Option Int} {n m : Int} {i k : Nat} (hi : i < k) (h0 : foldO p i n = some m) (h : p i m = none) : foldO p k n = none := by
  induction k with
  | zero => omega
  | succ k ih =>
    rcases Nat.lt_or_ge i k with h1 | h1
    · rw [foldO, ih h1]; rfl
    · obtain rfl : i = k := by omega
      rw [foldO, h0]; exact h
theorem foldO_next {p : Nat → Int → Option Int} {n m m' : Int} {i : Nat} (h : foldO p i n = some m) (hp : p i m = some m') : foldO p (i + 1) n = some m' := by
  rw [foldO, h]; exact hp
theorem foldO_bd {p : Nat → Int → Option Int} (hp : ∀ i m m', 0 ≤ m → p i m = some m' → 0 ≤ m' ∧ m' ≤ m) (k : Nat) : ∀ (n m : Int), 0 ≤ n → foldO p k n = some m → 0 ≤ m ∧ m ≤ n := by
  induction k with
  | zero => intro n m hn h; rw [foldO, Option.some.injEq] at h; omega
  | succ k ih =>
    intro n m hn h
    rw [foldO] at h
    obtain ⟨m1, h1, h2⟩ := Option.bind_eq_some_iff.1 h
    have := ih n m1 hn h1
    have := hp k m1 m this.1 h2
    omega
/-- Nodes left behind a tree, of so many, none deeper than that; none: it has more. -/
def heavyT : VT → Int → Int → Option Int
  | .no, d, n => if decide (d < 1) || decide (n < 1) then none else some (n - 1)
  | .mk _ _ _ _ _ _ ln _ lt _ _ _ mn _ _ mt, d, n => if decide (d < 1) || decide (n < 1) then none else
      (foldO (fun i m => heavyT (lt i) (d - 1) m) ln (n - 1)).bind fun m => foldO (fun i m => heavyT (mt i) (d - 1) m) mn m
def hvL (t : VT) (d : Int) : Nat → Int → Option Int := fun i m => heavyT (t.lt i) (d - 1) m
def hvM (t : VT) (d : Int) : Nat → Int → Option Int := fun i m => heavyT (t.mt i) (d - 1) m
theorem heavyT_eq (t : VT) (d n : Int) : heavyT t d n = if decide (d < 1) || decide (n < 1) then none else (foldO (hvL t d) t.ln (n - 1)).bind fun m => foldO (hvM t d) t.mn m := by
  cases t with
  | no => rfl
  | mk => rfl
theorem heavy_bd (t : VT) : ∀ (d n m : Int), heavyT t d n = some m → 0 ≤ m ∧ m ≤ n := by
  have key : ∀ t : VT, (∀ i d n m, heavyT (t.lt i) d n = some m → 0 ≤ m ∧ m ≤ n) → (∀ i d n m, heavyT (t.mt i) d n = some m → 0 ≤ m ∧ m ≤ n) → ∀ (d n m : Int), heavyT t d n = some m → 0 ≤ m ∧ m ≤ n := by
    intro t hl hm d n m h
    rw [heavyT_eq] at h
    split at h
    · cases h
    · rename_i h1
      have h2 : 1 ≤ n := by simp at h1; omega
      obtain ⟨m1, a, b⟩ := Option.bind_eq_some_iff.1 h
      have := foldO_bd (p := hvL t d) (fun i m m' _ hh => hl i _ _ _ hh) t.ln _ _ (by omega) a
      have := foldO_bd (p := hvM t d) (fun i m m' _ hh => hm i _ _ _ hh) t.mn _ _ this.1 b
      omega
  induction t with
  | no =>
    intro d n m h
    simp only [heavyT] at h
    split at h
    · cases h
    · rename_i h1
      simp only [Option.some.injEq] at h
      have h2 : 1 ≤ n := by simp at h1; omega
      omega
  | mk k n s lA lb lo ln lc lt mA mb mo mn mc ky mt ihl ihm => exact key _ (fun i => ihl i) (fun i => ihm i)
def outH (o : Option Int) : Value := .tuple #[.bool o.isNone, .int .i64 (o.getD 0)]
/-- What is to be shown of a tree. -/
def SteepOk (t : VT) : Prop := ∀ (d n : Int) (w : World), d ≤ 9223372036854775807 → 0 ≤ d → n ≤ 9223372036854775807 → 0 ≤ n → VT.In w.heap.size w t →
  Calls Tryz.prog 59 #[.agg t.c, .int .i64 d, .int .i64 n] w fun e w' => e = .returned (outH (heavyT t d n)) ∧ Below w.heap.size w w'
set_option maxRecDepth 100000 in
theorem steep_no (t : VT) (d n : Int) (w : World) (h : (decide (d < 1) || decide (n < 1)) = true) : Calls Tryz.prog 59 #[.agg t.c, .int .i64 d, .int .i64 n] w fun e w' => e = .returned (outH (heavyT t d n)) ∧ Below w.heap.size w w' := by
  have hh : Hid (heavyT t d n = none) := by unfold Hid; rw [heavyT_eq, if_pos h]
  cases h1 : decide (d < 1)
  · have h2 : decide (n < 1) = true := by rw [h1] at h; simpa using h
    clear h
    go_enter Tryz.func59, Tryz.ntmps59
    go_wp2_with go_skip
    go_ret2
    exact ⟨by rw [hh.out]; rfl, (Below.refl _ _).alloc (Nat.le_refl _) _⟩
  · clear h
    go_enter Tryz.func59, Tryz.ntmps59
    go_wp2_with go_skip
    go_ret2
    exact ⟨by rw [hh.out]; rfl, (Below.refl _ _).alloc (Nat.le_refl _) _⟩
set_option maxRecDepth 100000 in
set_option maxHeartbeats 1000000 in
theorem steep_go (t : VT) (d n : Int) (w : World) (hd : d ≤ 9223372036854775807) (hn : n ≤ 9223372036854775807) (ht : VT.In w.heap.size w t) (ihl : ∀ i, i < t.ln → SteepOk (t.lt i)) (ihm : ∀ i, i < t.mn → SteepOk (t.mt i))
    (h : (decide (d < 1) || decide (n < 1)) = false) : Calls Tryz.prog 59 #[.agg t.c, .int .i64 d, .int .i64 n] w fun e w' => e = .returned (outH (heavyT t d n)) ∧ Below w.heap.size w w' := by
  have hh : Hid (heavyT t d n = (foldO (hvL t d) t.ln (n - 1)).bind fun m => foldO (hvM t d) t.mn m) := by unfold Hid; rw [heavyT_eq, h]; rfl
  simp only [Bool.or_eq_false_iff] at h
  obtain ⟨h1, h2⟩ := h
  have hd1 : 1 ≤ d := by simpa using h1
  have hn1 : 1 ≤ n := by simpa using h2
  have HA := ht.here
  have hll := HA.ll
  have hml := HA.ml
  have a0 : t.c[0]? = some (.int .i64 t.k) := rfl
  have a3 : t.c[3]? = some (.slice t.lA t.ln t.lc) := rfl
  have a4 : t.c[4]? = some (.slice t.mA t.mn t.mc) := rfl
  have IL := Lib.hid ihl
  have IM := Lib.hid ihm
  clear ihl ihm
  have hS0 : Sees w (w.alloc (Obj.cells t.c 34)) [(w.heap.size, Obj.cells t.c 34)] := by
    have := (Sees.start w).alloc (Obj.cells t.c 34)
    simpa using this
  go_enter Tryz.func59, Tryz.ntmps59
  go_wp2_with go_skip
  go_loopw [2, 8] (fun nv iv wr => ∃ (i : Nat) (m : Int), i ≤ t.ln ∧ nv = .int .i64 m ∧ iv = .int .i64 (i : Int) ∧ Hid (foldO (hvL t d) i (n - 1) = some m) ∧ Sees w wr [(w.heap.size, Obj.cells t.c 34)]) (fun nv iv _ => t.ln - (intOf iv).toNat)
  case atStart => exact ⟨0, _, Nat.zero_le _, rfl, rfl, rfl, hS0⟩
  case round =>
    rename_i wr
    obtain ⟨i, m, hi, rfl, rfl, H, hS⟩ := hrel
    have hmb := foldO_bd (p := hvL t d) (fun i m m' _ hh => heavy_bd _ _ _ _ hh) i (n - 1) m (by omega) H.out
    by_cases hlt : i < t.ln
    · have xa := HA.lix hlt
      have c3 : wr.cell? ⟨w.heap.size, 3, none⟩ = some (.slice t.lA t.ln t.lc) := (cell_of_row _ _ _ _ _ _ hS.g0).trans a3
      have c4 : wr.cell? ⟨w.heap.size, 4, none⟩ = some (.slice t.mA t.mn t.mc) := (cell_of_row _ _ _ _ _ _ hS.g0).trans a4
      have LA := Lib.hid ((HA.move (hS.below)).lcell i hlt)
      have HK := IL.out i hlt (d - 1) m wr (by omega) (by omega) (by omega) (by omega) (in_later (ht.l i hlt) hS.below (Below.refl _ _))
      cases hr : heavyT (t.lt i) (d - 1) m with
      | none =>
        have hf : Hid (heavyT t d n = none) := by
          unfold Hid
          rw [hh.out, foldO_stop hlt H.out hr]; rfl
        rw [hr] at HK
        have HK := Lib.hid HK
        clear hr
        go_wp2_with (first | go_skip | (refine load_cells rfl 34 (.tmp 33) rfl _ _ rfl _ _ LA.out Tryz.underlying34 rfl (VT.val_info _) ?_) | (go_at_call 59; with_reducible (refine HK.out.mono ?_); rintro e wn ⟨rfl, hbn⟩; have hS1 := hS.step hbn; clear hS hbn; have hS := hS1; clear hS1; simp only [outH, Option.isNone, Option.getD]))
        go_wp2_with go_skip
        go_ret2
        exact ⟨by rw [hf.out]; rfl, hS.below⟩
      | some m' =>
        have hb := heavy_bd _ _ _ _ hr
        have hx := Lib.hid (foldO_next H.out hr)
        rw [hr] at HK
        have HK := Lib.hid HK
        clear hr
        go_wp2_with (first | go_skip | (refine load_cells rfl 34 (.tmp 33) rfl _ _ rfl _ _ LA.out Tryz.underlying34 rfl (VT.val_info _) ?_) | (go_at_call 59; with_reducible (refine HK.out.mono ?_); rintro e wn ⟨rfl, hbn⟩; have hS1 := hS.step hbn; clear hS hbn; have hS := hS1; clear hS1; simp only [outH, Option.isNone, Option.getD]))
        go_wp2_with go_skip
        go_roundw
        case rel => exact ⟨i + 1, m', by omega, rfl, by go_num, hx, hS⟩
        case measure => simp [intOf]; omega
    · have hge : decide ((i : Int) < t.ln) = false := by simp; omega
      obtain rfl : i = t.ln := by omega
      have hh : Hid (heavyT t d n = foldO (hvM t d) t.mn m) := by unfold Hid; rw [hh.out, H.out]; rfl
      clear H
      obtain ⟨n1, rfl⟩ : ∃ n1, n1 = m := ⟨_, rfl⟩
      have c3 : wr.cell? ⟨w.heap.size, 3, none⟩ = some (.slice t.lA t.ln t.lc) := (cell_of_row _ _ _ _ _ _ hS.g0).trans a3
      have c4 : wr.cell? ⟨w.heap.size, 4, none⟩ = some (.slice t.mA t.mn t.mc) := (cell_of_row _ _ _ _ _ _ hS.g0).trans a4
      go_wp2_with go_skip
      clear c3 c4
      go_loopw [2, 11] (fun nv iv wr => ∃ (i : Nat) (m : Int), i ≤ t.mn ∧ nv = .int .i64 m ∧ iv = .int .i64 (i : Int) ∧ Hid (foldO (hvM t d) i n1 = some m) ∧ Sees w wr [(w.heap.size, Obj.cells t.c 34)]) (fun nv iv _ => t.mn - (intOf iv).toNat)
      case atStart => exact ⟨0, _, Nat.zero_le _, rfl, rfl, rfl, hS⟩
      case round =>
        clear hS
        rename_i wr
        obtain ⟨i, m, hi, rfl, rfl, H, hS⟩ := hrel
        have hmc := foldO_bd (p := hvM t d) (fun i m m' _ hh => heavy_bd _ _ _ _ hh) i n1 m (by omega) H.out
        by_cases hlt : i < t.mn
        · have xa := HA.mix hlt
          have c3 : wr.cell? ⟨w.heap.size, 3, none⟩ = some (.slice t.lA t.ln t.lc) := (cell_of_row _ _ _ _ _ _ hS.g0).trans a3
          have c4 : wr.cell? ⟨w.heap.size, 4, none⟩ = some (.slice t.mA t.mn t.mc) := (cell_of_row _ _ _ _ _ _ hS.g0).trans a4
          have LA := Lib.hid ((HA.move (hS.below)).mval hlt)
          have HK := IM.out i hlt (d - 1) m wr (by omega) (by omega) (by omega) (by omega) (in_later (ht.m i hlt) hS.below (Below.refl _ _))
          cases hr : heavyT (t.mt i) (d - 1) m with
          | none =>
            have hf : Hid (heavyT t d n = none) := by
              unfold Hid
              rw [hh.out, foldO_stop hlt H.out hr]
            rw [hr] at HK
            have HK := Lib.hid HK
            clear hr
            go_wp2_with (first | go_skip | (refine load_cells rfl 34 (.tmp 55) rfl _ _ rfl _ _ LA.out Tryz.underlying34 rfl (VT.val_info _) ?_) | (go_at_call 59; with_reducible (refine HK.out.mono ?_); rintro e wn ⟨rfl, hbn⟩; have hS1 := hS.step hbn; clear hS hbn; have hS := hS1; clear hS1; simp only [outH, Option.isNone, Option.getD]))
            go_wp2_with go_skip
            go_ret2
            exact ⟨by rw [hf.out]; rfl, hS.below⟩
          | some m' =>
            have hb := heavy_bd _ _ _ _ hr
            have hx := Lib.hid (foldO_next H.out hr)
            rw [hr] at HK
            have HK := Lib.hid HK
            clear hr
            go_wp2_with (first | go_skip | (refine load_cells rfl 34 (.tmp 55) rfl _ _ rfl _ _ LA.out Tryz.underlying34 rfl (VT.val_info _) ?_) | (go_at_call 59; with_reducible (refine HK.out.mono ?_); rintro e wn ⟨rfl, hbn⟩; have hS1 := hS.step hbn; clear hS hbn; have hS := hS1; clear hS1; simp only [outH, Option.isNone, Option.getD]))
            go_wp2_with go_skip
            go_roundw
            case rel => exact ⟨i + 1, m', by omega, rfl, by go_num, hx, hS⟩
            case measure => simp [intOf]; omega
        · have hge : decide ((i : Int) < t.mn) = false := by simp; omega
          obtain rfl : i = t.mn := by omega
          have c3 : wr.cell? ⟨w.heap.size, 3, none⟩ = some (.slice t.lA t.ln t.lc) := (cell_of_row _ _ _ _ _ _ hS.g0).trans a3
          have c4 : wr.cell? ⟨w.heap.size, 4, none⟩ = some (.slice t.mA t.mn t.mc) := (cell_of_row _ _ _ _ _ _ hS.g0).trans a4
          go_wp2_with go_skip
          go_ret2
          exact ⟨by rw [hh.out, H.out]; rfl, hS.below⟩
theorem steep_v (t : VT) : SteepOk t := by
  have key : ∀ t : VT, (∀ i, i < t.ln → SteepOk (t.lt i)) → (∀ i, i < t.mn → SteepOk (t.mt i)) → SteepOk t := by
    intro t ihl ihm d n w hd _ hn _ ht
    cases h : (decide (d < 1) || decide (n < 1))
    · exact steep_go t d n w hd hn ht ihl ihm h
    · exact steep_no t d n w h
  induction t with
  | no => exact key .no (fun i hi => absurd hi (Nat.not_lt_zero i)) (fun i hi => absurd hi (Nat.not_lt_zero i))
  | mk k n s lA lb lo ln lc lt mA mb mo mn mc ky mt ihl ihm => exact key _ (fun i _ => ihl i) (fun i _ => ihm i)
def heavyB (t : VT) (n d : Int) : Bool := (heavyT t d n).isNone
theorem heavy_any (t : VT) (n d : Int) (w : World) (hd : d ≤ 9223372036854775807) (h0 : 0 ≤ d) (hn : n ≤ 9223372036854775807) (h1 : 0 ≤ n) (ht : VT.In w.heap.size w t) :
    Calls Tryz.prog 44 #[.agg t.c, .int .i64 n, .int .i64 d] w fun e w' => e = .returned (.bool (heavyB t n d)) ∧ Below w.heap.size w w' := by
  have HK := fun W (hW : Below w.heap.size w W) => steep_v t d n W hd h0 hn h1 ((ht.move hW).up hW.size)
  have HK := Lib.hid HK
  have hS : Sees w (w.alloc (Obj.cells t.c 34)) [(w.heap.size, Obj.cells t.c 34)] := by
    have := (Sees.start w).alloc (Obj.cells t.c 34)
    simpa using this
  unfold heavyB
  go_enter Tryz.func44, Tryz.ntmps44
  go_wp2_with (first | go_skip | (refine wpList_load_row' rfl 34 (.tmp 3) rfl _ rfl 34 _ (0, 0) _ hS.g0 Tryz.underlying34 rfl (VT.val_info _) ?_) | (go_at_call 59; with_reducible (refine (HK.out _ hS.below).mono ?_); rintro e wn ⟨rfl, hbn⟩; have hS1 := hS.step hbn; clear hS hbn; have hS := hS1; clear hS1; unfold outH))
  go_ret
  exact ⟨ret_bool rfl, hS.below⟩
end Go.Proofs.YteplcnpmdjdlkaaGreatDoor
