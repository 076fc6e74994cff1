/-
  value.Map at at most 20 pairs that may be. No condition.
-/
import Derived.Test.YtcpmehppfccihaaGreatDoorJ14
import Derived.Test.YtcpmehppfccihaaGreatDoorJ13
import Derived.Test.YtcpmehppfccihaaGreatDoorJ12
namespace Go.Proofs.YtcpmehppfccihaaGreatDoor
open Go.RowKit
set_option linter.unusedVariables false
set_option linter.unusedSimpArgs false
set_option linter.unusedSectionVars false
/-- A map of these pairs. -/
def mapT (A : Option Addr) (mb mo n c : Nat) (key : Nat → ByteArray) (mt : Nat → VT) : VT := .mk 6 0 ⟨#[]⟩ none 0 0 0 0 (fun _ => .no) A mb mo n c key mt
theorem build_m (A : Option Addr) (n c : Nat) (W : World) : (Instr.build 27 #[(0, .int .i64 6), (4, .slice A n c)]).run Tryz.prog W = .ok (.agg #[.int .i64 6, .int .i64 0, .string ⟨#[]⟩, .slice none 0 0, .slice A n c]) W := by kernel_rfl
/-- What stands when the row is sorted. -/
def MapAt (w : World) (n : Nat) (key : Nat → ByteArray) (mt : Nat → VT) (v : Value) (W : World) : Prop :=
  Boxes w W [(w.heap.size, Obj.cells VT.no.c 27)] ∧ Cl 34 6 (w.heap.size + 1) n (fun i => pcK (sortA n key mt)[i]!.1 (sortA n key mt)[i]!.2) v W
theorem pairK_info {k : ByteArray} {x : VT} : (Tryz.prog.info? 34).map (·.size) = some (pcK k x).toList.length := by kernel_rfl
theorem pcK_one (k : ByteArray) (x : VT) : (pcK k x).all (·.oneCell') = true := by simp [pcK, VT.L, VT.M, Value.oneCell']
def keyS (n : Nat) (key : Nat → ByteArray) (mt : Nat → VT) (i : Nat) : ByteArray := (sortA n key mt)[i]!.1
def valS (n : Nat) (key : Nat → ByteArray) (mt : Nat → VT) (i : Nat) : VT := (sortA n key mt)[i]!.2
set_option maxRecDepth 100000 in
set_option maxHeartbeats 1000000 in
theorem vMap_ok (A : Option Addr) (mb mo n c : Nat) (key : Nat → ByteArray) (mt : Nat → VT) (w : World) (ht : VT.In w.heap.size w (mapT A mb mo n c key mt)) (hn : n ≤ 20) (hno0 : ∀ i, 0 < i → i < n → ((keyS n key mt i).toList == (keyS n key mt (i - 1)).toList) = false) (hlet0 : ∀ i, i < n → letC (keyS n key mt i) = 0) (hks0 : ∀ i, i < n → (keyS n key mt i).size ≤ 9223372036854775807) (hM0 : ∀ i, i < n → VT.In w.heap.size w (valS n key mt i) ∧ VT.Sm (valS n key mt i)) :
    Calls Tryz.prog 13 #[.slice A n c] w fun e w' => ∃ (y : VT) (A' : Option Addr) (g' c' : Nat), e = .returned (.tuple #[.agg y.c, .int .i64 0]) ∧ Cop w.heap.size (mapT A' g' 0 n c' (keyS n key mt) (valS n key mt)) y w' ∧ Below w.heap.size w w' := by
  have hS := Boxes.start w
  have b1 := build_m
  have HC : Hid (∀ W, Below w.heap.size w W → Calls Tryz.prog 41 #[.slice A n c] W fun e w' => ∃ v, e = .returned v ∧ Cl 34 6 W.heap.size n (fun i => pcK (key i) (mt i)) v w' ∧ Below W.heap.size W w') := fun W hb => cloneP_any (w := W) (t := mapT A mb mo n c key mt) ((ht.move hb).up hb.size) (by show n * 96 ≤ _; omega)
  have HK := Lib.hid (fun W B v h => sortS_cl (W := W) (B := B) (n := n) (key := key) (mt := mt) (v := v) h hn (sortA_size n key mt))
  clear ht
  go_enter Tryz.func13, Tryz.ntmps13
  go_wp2_with (first | go_skip | ((with_reducible refine gate_op (op := .alloc 27) rfl ?_); refine alloc_arm rfl 27 rfl (val_alloc _) ?_; intro wn hbn hgn; have hS1 := hS.new hbn hgn; clear hS hbn hgn; have hS := hS1; clear hS1))
  rename World => w1
  have hl := hS.lt 0 rfl
  refine (HC.out _ hS.below).mono ?_
  rintro e w2 ⟨v, rfl, hcl, hb2⟩
  have hS2 := hS.step hb2
  clear hS hb2
  have hcl := hcl.low (show w.heap.size + 1 ≤ w1.heap.size from hl)
  go_wp2_with go_skip
  refine (HK.out _ _ _ hcl).mono ?_
  rintro e w3 ⟨rfl, hb3, hcl3⟩
  have hS3 : Boxes w w3 [(w.heap.size, Obj.cells VT.no.c 27)] := ⟨hS2.below.trans (hb3.mono (by omega)), fun i p hp => by
    obtain ⟨h1, h2⟩ := hS2.rows i p hp
    refine ⟨h1, (hb3.block p.1 ?_).trans h2⟩
    have : p ∈ ([] ++ [(w.heap.size, Obj.cells VT.no.c 27)]) := List.mem_of_getElem? hp
    simp at this
    rw [this]
    exact Nat.lt_succ_self _, hS2.apart⟩
  clear hcl hS2 hb3
  clear HC HK b1
  have hcl3 : Cl 34 6 (w.heap.size + 1) n (fun i => pcK (keyS n key mt i) (valS n key mt i)) v w3 := hcl3
  generalize hKe0 : keyS n key mt = K at *
  generalize hVe0 : valS n key mt = M at *
  have HKe := Lib.hid hKe0
  have HVe := Lib.hid hVe0
  clear hKe0 hVe0
  obtain ⟨A1, g, cap, cur, rfl, hrow⟩ := hcl3
  have HR := Lib.hid hrow
  clear hrow
  have hno := Lib.hid hno0
  have HLE := Lib.hid hlet0
  have HKS := Lib.hid hks0
  have HM := Lib.hid hM0
  clear hno0 hlet0 hks0 hM0
  go_wp2_with go_skip
  go_loopw [4, 14] (fun x iv wr => ∃ i : Nat, i ≤ n ∧ iv = .int .i64 (i : Int) ∧ Boxes w wr [(w.heap.size, Obj.cells VT.no.c 27)] ∧ Below w3.heap.size w3 wr) (fun _ iv _ => n - (intOf iv).toNat)
  case atStart => exact ⟨0, Nat.zero_le _, rfl, hS3, Below.refl _ _⟩
  case round =>
    clear hS3
    rename_i wr
    obtain ⟨i, hi, rfl, hS, hB⟩ := hrel
    by_cases hlt : i < n
    · have hltb : decide ((i : Int) < n) = true := by simp; omega
      obtain ⟨rfl, hg, hr, hs, hc, hcu⟩ := HR.out (by omega)
      have hr2 := (hB.block g (Array.getElem?_eq_some_iff.1 hr).1).trans hr
      by_cases h0 : i = 0
      · subst h0
        go_wp2_with go_skip
        refine wp_region_quiet_below (by kernel_rfl) (by kernel_rfl) ?_
        repeat (first | go_big_quiet_step (fail) | quiet_step (fail))
        refine wpQuiet_nil ?_; rintro wq ⟨⟨dq, osq⟩, rfl⟩; have hbq := below_regrown wr dq osq; generalize Go.Sort.grow (redrawn wr dq) osq = wq at *
        go_wp2_with go_skip
        go_roundw
        case rel => exact ⟨1, by omega, by go_num, hS.step hbq, hB.trans (hbq.mono hB.size)⟩
        case measure => simp [intOf]; omega
      · obtain ⟨j, rfl⟩ : ∃ j, i = j + 1 := ⟨i - 1, by omega⟩
        have ka := cell_regrown (show wr.cell? ⟨g, (j + 1) * 6, none⟩ = some (.string (K (j + 1))) from (cell_of_row wr g ((j + 1) * 6) cur _ _ hr2).trans (hcu (j + 1) hlt 0 _ rfl))
        have kb := cell_regrown (show wr.cell? ⟨g, j * 6, none⟩ = some (.string (K j)) from (cell_of_row wr g (j * 6) cur _ _ hr2).trans (hcu j (by omega) 0 _ rfl))
        have hne := hno.out (j + 1) (by omega) hlt
        rw [Nat.add_sub_cancel] at hne
        have hpos : (0 : Int) < (j : Int) + 1 := by omega
        have p0 : (0 : Int) ≤ (j : Int) + 1 := by omega
        have e0 : ((j : Int) + 1).toNat = j + 1 := by omega
        have jz : (j : Int) + 1 < (n : Int) := by omega
        have jz1 : (j : Int) < (n : Int) := by omega
        have hwp : IntKind.i64.wrap (j : Int) = (j : Int) := by rw [IntKind.wrap_i64]; omega
        go_wp2_with go_skip
        refine wp_region_quiet_below (by kernel_rfl) (by kernel_rfl) ?_
        repeat (first | go_big_quiet_step (fail) | quiet_step (fail))
        refine wpQuiet_nil ?_; rintro wq ⟨⟨dq, osq⟩, rfl⟩; have hbq := below_regrown wr dq osq; generalize Go.Sort.grow (redrawn wr dq) osq = wq at *
        go_wp2_with go_skip
        go_roundw
        case rel => exact ⟨j + 1 + 1, by omega, by go_num, hS.step hbq, hB.trans (hbq.mono hB.size)⟩
        case measure => simp [intOf]; omega
    · have hge : decide ((i : Int) < n) = false := by simp; omega
      have hin : n = i := by omega
      subst hin
      go_wp2_with go_skip
      go_loopw [37] (fun iv wr => ∃ i : Nat, i ≤ n ∧ iv = .int .i64 (i : Int) ∧ Boxes w wr [(w.heap.size, Obj.cells VT.no.c 27)] ∧ Below w3.heap.size w3 wr) (fun iv _ => n - (intOf iv).toNat)
      case atStart => exact ⟨0, Nat.zero_le _, rfl, hS, hB⟩
      case round =>
        clear hS hB
        rename_i wr
        obtain ⟨i, hi, rfl, hS, hB⟩ := hrel
        by_cases hlt : i < n
        · have hltb : decide ((i : Int) < n) = true := by simp; omega
          obtain ⟨rfl, hg, hr, hs, hc, hcu⟩ := HR.out (by omega)
          have hr2 := (hB.block g (Array.getElem?_eq_some_iff.1 hr).1).trans hr
          have HL : Hid (∀ W, Calls Tryz.prog 39 #[.string (K i)] W fun e w' => e = .returned (.int .i64 0) ∧ Below W.heap.size W w') := fun W => by
            have := letters_any (K i) W (HKS.out i hlt)
            rwa [HLE.out i hlt] at this
          have HU := Lib.hid (fun (q : Nat) u hu => hcu i hlt q u hu)
          clear hcu
          go_wp2_with (first | go_skip | (refine load_sub rfl 34 (.tmp 39) rfl g (i * 6) rfl 34 cur (0, 0) (pcK (K i) (M i)).toList _ hr2 (fun q u hu => HU.out q u (by rw [← Array.getElem?_toList]; exact hu)) Tryz.underlying34 rfl pairK_info ?_) | ((with_reducible refine gate_op (op := .store 34 (.tmp 6) (.tmp 40)) rfl ?_); refine wpList_store_row rfl 34 (.tmp 6) (.tmp 40) rfl _ (pcK (K i) (M i)) rfl rfl 34 _ (heap_alloc_new _ _) pairK_info rfl (pcK_one _ _) ?_; intro wn hbn hgn hon hsn; have hbx := ((Below.refl _ wr).alloc (Nat.le_refl _) _).trans hbn; have c0 := (cell_of_row _ _ 0 _ _ _ hgn).trans (show (pcK (K i) (M i))[0]? = some (.string (K i)) from rfl); have hS1 := hS.step hbx; have hB1 := hB.trans (hbx.mono hB.size); clear hS hB hbn hgn hon hsn hbx; have hS := hS1; have hB := hB1; clear hS1 hB1) | (go_at_call 39; with_reducible (refine (HL.out _).mono ?_); rintro e wn ⟨rfl, hbn⟩; have hS1 := hS.step hbn; have hB1 := hB.trans (hbn.mono hB.size); clear hS hB hbn c0; have hS := hS1; have hB := hB1; clear hS1 hB1))
          go_roundw
          case rel => exact ⟨i + 1, by omega, by go_num, hS, hB⟩
          case measure => simp [intOf]; omega
        · have hge : decide ((i : Int) < n) = false := by simp; omega
          have hin : n = i := by omega
          subst hin
          have hT : VT.In wr.heap.size wr (mapT A1 g 0 n cap K M) := by
            have hx : ∀ i, i < n → VT.In wr.heap.size wr (M i) := fun i hi => ((HM.out i hi).1.move hS.below).up hS.below.size
            refine .mk ⟨by show (-9223372036854775808 : Int) ≤ 0; omega, by show (0 : Int) ≤ 9223372036854775807; omega, by show (-9223372036854775808 : Int) ≤ 6; omega, by show (6 : Int) ≤ 9223372036854775807; omega, by show (0 : Nat) ≤ _; omega, by show (0 : Nat) ≤ _; omega, by show n ≤ _; omega, fun h => absurd h (Nat.lt_irrefl 0), fun h => ?_, fun i hi => absurd hi (Nat.not_lt_zero i), fun i hi q u hu => ?_, fun i hi => HKS.out i hi⟩ (fun i hi => absurd hi (Nat.not_lt_zero i)) hx
            · obtain ⟨e, _, hr, _⟩ := HR.out h
              exact ⟨e, Nat.lt_of_lt_of_le (Array.getElem?_eq_some_iff.1 hr).1 hB.size⟩
            · have hi : i < n := hi
              obtain ⟨e, _, hr, _, _, hcu⟩ := HR.out (by omega)
              refine (cell_of_row _ _ _ _ _ _ ((hB.block g (Array.getElem?_eq_some_iff.1 hr).1).trans hr)).trans ?_
              show cur[0 + i * 6 + q]? = some u
              rw [show (0 : Nat) + i * 6 + q = i * 6 + q by omega]
              exact hcu i hi q u hu
          have hSm : VT.Sm (mapT A1 g 0 n cap K M) := .mk (by show (0 : Nat) * 80 ≤ _; omega) (by show n * 96 ≤ _; omega) (fun i hi => absurd hi (Nat.not_lt_zero i)) (fun i hi => (HM.out i hi).2)
          have b1 := build_m
          go_wp2_with go_skip
          refine (vCopy_any _ wr hT hSm).mono ?_
          rintro e w5 ⟨y, rfl, hy, hb5⟩
          have hlr := hS.lt 0 rfl
          have hS5 := hS.step hb5
          clear hS b1
          go_wp2_with (first | go_skip | ((with_reducible refine gate_op (op := .store 27 (.tmp 2) (.tmp 51)) rfl ?_); refine wpList_store_row rfl 27 (.tmp 2) (.tmp 51) rfl _ y.c rfl rfl 27 _ (hS5.at_ 0 rfl) (VT.val_info _) rfl (VT.c_one _) ?_; intro wn hbn hgn hon hsn))
          exact bodyPost_ret (v := .tuple #[.agg y.c, .int .i64 0]) (results_row_tmp rfl _ _ _ _ _ _ _ _ rfl rfl hgn Tryz.underlying27 rfl (VT.val_info _)) rfl ⟨y, A1, g, cap, rfl, (by rw [HKe.out, HVe.out]; exact (hy.put hlr hon hsn).low (Nat.le_of_lt hlr)), hS5.below.trans (hbn.mono (Nat.le_refl _))⟩
end Go.Proofs.YtcpmehppfccihaaGreatDoor
