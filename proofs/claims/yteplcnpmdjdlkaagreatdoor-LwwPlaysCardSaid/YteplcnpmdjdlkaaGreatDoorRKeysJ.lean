/-
  The reference's Keys: the keys of an object that are on, out of a row of operations. No condition.
-/
import Derived.Test.YteplcnpmdjdlkaaGreatDoorRWordJ
import Derived.Test.YteplcnpmdjdlkaaGreatDoorRKeysRJ
namespace Go.Proofs.YteplcnpmdjdlkaaGreatDoor
open Go.RowKit Go.Sort
set_option linter.unusedVariables false
set_option linter.unusedSimpArgs false
set_option linter.unusedSectionVars false
def lsK (key : ByteArray) (a : List UInt8) : Bool := Op.bytesLess (kb a).toList key.toList
def posK (key : ByteArray) (K : List (List UInt8)) : Nat := (K.takeWhile (lsK key)).length
theorem posK_le (key : ByteArray) (K : List (List UInt8)) : posK key K ≤ K.length := by
  unfold posK
  exact (List.takeWhile_sublist _).length_le
theorem posK_eq {key : ByteArray} : ∀ {K : List (List UInt8)} {m : Nat}, m ≤ K.length → (∀ (i : Nat) s, i < m → K[i]? = some s → lsK key s = true) → (∀ s, K[m]? = some s → lsK key s = false) → posK key K = m
  | [], m, h, _, _ => by obtain rfl : m = 0 := by simpa using h
                         rfl
  | a :: K, 0, _, _, h2 => by
    unfold posK
    rw [List.takeWhile_cons, h2 a rfl]
    rfl
  | a :: K, m + 1, h, h1, h2 => by
    unfold posK
    rw [List.takeWhile_cons, h1 0 a (by omega) rfl]
    show (K.takeWhile (lsK key)).length + 1 = m + 1
    rw [show (K.takeWhile (lsK key)).length = m from posK_eq (by simpa using h) (fun i s hi hs => h1 (i + 1) s (by omega) (by simpa using hs)) (fun s hs => h2 s (by simpa using hs))]
def wordOn (r n : Int) (L : List OT) (key : ByteArray) : Bool := (wdFold r n key L).2 && (wdFold r n key L).1.o.K == 1
def ofObj (r n : Int) (x : OT) : Bool := decide (x.o.K ≤ 2) && (x.o.OR == r && x.o.ON == n)
def keyStep (r n : Int) (L : List OT) (K : List (List UInt8)) (x : OT) : List (List UInt8) :=
  if ofObj r n x && wordOn r n L x.o.key && !(K[posK x.o.key K]? == some x.o.key.data.toList) then K.take (posK x.o.key K) ++ x.o.key.data.toList :: K.drop (posK x.o.key K) else K
def keysF (r n : Int) (L M : List OT) : List (List UInt8) := M.foldl (keyStep r n L) []
theorem keysF_succ (r n : Int) (L : List OT) {i : Nat} {x : OT} (hx : L[i]? = some x) : keysF r n L (L.take (i + 1)) = keyStep r n L (keysF r n L (L.take i)) x := by
  unfold keysF
  rw [List.take_add_one, hx]
  simp
theorem keyStep_len (r n : Int) (L : List OT) (K : List (List UInt8)) (x : OT) : (keyStep r n L K x).length ≤ K.length + 1 := by
  unfold keyStep
  split
  · rw [List.length_append, List.length_take, List.length_cons, List.length_drop]; omega
  · omega
theorem owns_cap {W : World} {base : Nat} {e : TypeId} {size : Nat} {A : Option Addr} {n c : Nat} {xs : List Value} (h : W.ownsRow base e size (.slice A n c) n xs) : n ≤ c := by
  rcases h.2 with ⟨h1, rfl⟩ | ⟨g, cap, cur, h1, _, _, h2, _⟩
  · omega
  · injection h1 with _ _ h3; omega
section
variable (r n : Int) (A : Option Addr) (g o c : Nat) (L : List OT) (w : World) (hL : OpsIn w.heap.size w A g o L) (hn : L.length ≤ 1000000) (hks : ∀ x ∈ L, KSz x.o.key)
include hL hn hks
set_option maxRecDepth 100000 in
set_option maxHeartbeats 4000000 in
theorem rKeys_any : Calls Tryz.prog 18 #[.slice A L.length c, .agg #[Value.int .i64 r, Value.int .i64 n]] w fun e w' => ∃ A' g' c', e = .returned (.slice A' (keysF r n L L).length c') ∧ SIn w' A' g' (keysF r n L L) ∧ Below w.heap.size w w' := by
  have HL := Lib.hid hL
  have HKS := Lib.hid hks
  have HN := Lib.hid hn
  have hS : Boxes w (w.alloc (Obj.cells #[Value.int .i64 r, Value.int .i64 n] 27)) [(w.heap.size, Obj.cells #[Value.int .i64 r, Value.int .i64 n] 27)] := (Boxes.start w).alloc _
  clear hL hks
  go_enter Tryz.func18, Tryz.ntmps18
  go_wp2_with go_skip
  generalize (w.alloc (Obj.cells #[Value.int .i64 r, Value.int .i64 n] 27)) = W0 at *
  go_loopw [5, 6] (fun kv iv wr => ∃ (j : Nat) (K : List (List UInt8)) (A' : Option Addr) (g' c' : Nat), j ≤ L.length ∧ kv = .slice A' K.length c' ∧ iv = .int .i64 (j : Int) ∧ (K = keysF r n L (L.take j) ∧ K.length ≤ j ∧ K.length ≤ c' ∧ SIn wr A' g' K) ∧ Boxes w wr [(w.heap.size, Obj.cells #[Value.int .i64 r, Value.int .i64 n] 27)]) (fun _ iv _ => L.length - (intOf iv).toNat)
  case atStart => exact ⟨0, [], none, 0, 0, Nat.zero_le _, rfl, rfl, ⟨rfl, Nat.le_refl _, Nat.le_refl _, ⟨fun h => absurd h (by simp), fun j s h => by simp at h⟩⟩, hS⟩
  case round =>
    clear hS
    rename World => wr
    obtain ⟨j, K, A', g', c', hj, rfl, rfl, hK, hS⟩ := hrel
    have HK := Lib.hid hK
    clear hK
    by_cases hlt : j < L.length
    · have hltb : decide ((j : Int) < L.length) = true := by simp; omega
      obtain ⟨x, hx⟩ : ∃ x, L[j]? = some x := ⟨_, List.getElem?_eq_getElem hlt⟩
      have HX := Lib.hid (HL.out.ok x (List.mem_of_getElem? hx))
      have HXK := Lib.hid (HKS.out x (List.mem_of_getElem? hx))
      have hxs := HX.out.seen
      have cX := Lib.hid (fun q v hv => (HL.out.move hS.below).c j x hx q v hv)
      have ix := HL.out.ix hlt c
      have HS := Lib.hid (keysF_succ r n L hx)
      have HM := Lib.hid (wdFold_ok r n x.o.key L HL.out.ok)
      have hms := HM.out.seen
      have HSr := Lib.hid hS
      have IDB := Lib.hid (fun W (hb : Below wr.heap.size wr W) => (hb.block _ (HSr.out.lt 0 rfl)).trans (HSr.out.at_ 0 rfl))
      clear hx hS
      have hS := Boxes.start wr
      cases h1 : decide (x.o.K ≤ 2)
      · have h1b : decide (2 < x.o.K) = true := by simp at h1 ⊢; omega
        have hN : Hid (keyStep r n L K x = K) := Lib.hid (by unfold keyStep; rw [show ofObj r n x = false by unfold ofObj; rw [h1]; rfl]; rfl)
        go_wp2_with (first | go_skip | ((with_reducible refine gate_op (op := .load 36 (.tmp 19)) rfl ?_); refine load_cells rfl 36 (.tmp 19) rfl _ _ rfl x.o.c _ cX.out Tryz.underlying36 rfl (op_info _ hxs) ?_) | ((with_reducible refine gate_op (op := .alloc 36) rfl ?_); refine alloc_arm rfl 36 rfl (op_alloc _) ?_; intro wn hbn hgn; have hS1 := hS.new hbn hgn; (try simp only [List.nil_append, List.cons_append, List.set_cons_zero, List.set_cons_succ] at hS1); clear hS hbn hgn; have hS := hS1; clear hS1) | (((with_reducible refine gate_op (op := .store 36 (.tmp 7) (.tmp 20)) rfl ?_); refine wpList_store_row rfl 36 (.tmp 7) (.tmp 20) rfl _ x.o.c rfl rfl 36 _ (hS.at_ 0 rfl) (op_info _ hxs) ((OpV.size (o := zeroO) rfl).trans (OpV.size (o := x.o) hxs).symm) (ot_one HX.out.vc) ?_; intro wn hbn hgn hon hsn; have hS1 := hS.put 0 rfl hon hbn hgn; (try simp only [List.nil_append, List.cons_append, List.set_cons_zero, List.set_cons_succ] at hS1); clear hS hbn hgn hon hsn; have hS := hS1; clear hS1); have x67 := (cell_of_row _ _ 67 _ _ _ (hS.at_ 0 rfl)).trans (OpV.g67 hxs); have x70 := (cell_of_row _ _ 70 _ _ _ (hS.at_ 0 rfl)).trans (OpV.g70 hxs)) | ((with_reducible refine gate_op (op := .load 27 (.tmp 25)) rfl ?_); refine load_part rfl 27 (.tmp 25) rfl _ 68 rfl _ _ (0, 0) _ _ (hS.at_ 0 rfl) (OpV.pObj hxs) Tryz.underlying27 rfl (id_info _ _) ?_) | ((with_reducible refine gate_op (op := .load 27 (.tmp 3)) rfl ?_); refine wpList_load_row' rfl 27 (.tmp 3) rfl _ rfl 27 _ (0, 0) _ (IDB.out _ hS.below) Tryz.underlying27 rfl (id_info _ _) ?_))
        go_roundw
        case rel => exact ⟨j + 1, K, A', g', c', by omega, rfl, by go_num, ⟨by rw [HS.out, ← HK.out.1, hN.out], by have := HK.out.2.1; omega, HK.out.2.2.1, (HK.out.2.2.2.move hS.below)⟩, HSr.out.step hS.below⟩
        case measure => first | (simp [intOf]; done) | (simp [intOf]; omega)
      · have h1b : decide (2 < x.o.K) = false := by simp at h1 ⊢; omega
        cases h2 : (x.o.OR == r)
        · have hN : Hid (keyStep r n L K x = K) := Lib.hid (by unfold keyStep; rw [show ofObj r n x = false by unfold ofObj; rw [h1, h2]; rfl]; rfl)
          go_wp2_with (first | go_skip | ((with_reducible refine gate_op (op := .load 36 (.tmp 19)) rfl ?_); refine load_cells rfl 36 (.tmp 19) rfl _ _ rfl x.o.c _ cX.out Tryz.underlying36 rfl (op_info _ hxs) ?_) | ((with_reducible refine gate_op (op := .alloc 36) rfl ?_); refine alloc_arm rfl 36 rfl (op_alloc _) ?_; intro wn hbn hgn; have hS1 := hS.new hbn hgn; (try simp only [List.nil_append, List.cons_append, List.set_cons_zero, List.set_cons_succ] at hS1); clear hS hbn hgn; have hS := hS1; clear hS1) | (((with_reducible refine gate_op (op := .store 36 (.tmp 7) (.tmp 20)) rfl ?_); refine wpList_store_row rfl 36 (.tmp 7) (.tmp 20) rfl _ x.o.c rfl rfl 36 _ (hS.at_ 0 rfl) (op_info _ hxs) ((OpV.size (o := zeroO) rfl).trans (OpV.size (o := x.o) hxs).symm) (ot_one HX.out.vc) ?_; intro wn hbn hgn hon hsn; have hS1 := hS.put 0 rfl hon hbn hgn; (try simp only [List.nil_append, List.cons_append, List.set_cons_zero, List.set_cons_succ] at hS1); clear hS hbn hgn hon hsn; have hS := hS1; clear hS1); have x67 := (cell_of_row _ _ 67 _ _ _ (hS.at_ 0 rfl)).trans (OpV.g67 hxs); have x70 := (cell_of_row _ _ 70 _ _ _ (hS.at_ 0 rfl)).trans (OpV.g70 hxs)) | ((with_reducible refine gate_op (op := .load 27 (.tmp 25)) rfl ?_); refine load_part rfl 27 (.tmp 25) rfl _ 68 rfl _ _ (0, 0) _ _ (hS.at_ 0 rfl) (OpV.pObj hxs) Tryz.underlying27 rfl (id_info _ _) ?_) | ((with_reducible refine gate_op (op := .load 27 (.tmp 3)) rfl ?_); refine wpList_load_row' rfl 27 (.tmp 3) rfl _ rfl 27 _ (0, 0) _ (IDB.out _ hS.below) Tryz.underlying27 rfl (id_info _ _) ?_))
          go_roundw
          case rel => exact ⟨j + 1, K, A', g', c', by omega, rfl, by go_num, ⟨by rw [HS.out, ← HK.out.1, hN.out], by have := HK.out.2.1; omega, HK.out.2.2.1, (HK.out.2.2.2.move hS.below)⟩, HSr.out.step hS.below⟩
          case measure => first | (simp [intOf]; done) | (simp [intOf]; omega)
        · cases h3 : (x.o.ON == n)
          · have hN : Hid (keyStep r n L K x = K) := Lib.hid (by unfold keyStep; rw [show ofObj r n x = false by unfold ofObj; rw [h1, h2, h3]; rfl]; rfl)
            go_wp2_with (first | go_skip | ((with_reducible refine gate_op (op := .load 36 (.tmp 19)) rfl ?_); refine load_cells rfl 36 (.tmp 19) rfl _ _ rfl x.o.c _ cX.out Tryz.underlying36 rfl (op_info _ hxs) ?_) | ((with_reducible refine gate_op (op := .alloc 36) rfl ?_); refine alloc_arm rfl 36 rfl (op_alloc _) ?_; intro wn hbn hgn; have hS1 := hS.new hbn hgn; (try simp only [List.nil_append, List.cons_append, List.set_cons_zero, List.set_cons_succ] at hS1); clear hS hbn hgn; have hS := hS1; clear hS1) | (((with_reducible refine gate_op (op := .store 36 (.tmp 7) (.tmp 20)) rfl ?_); refine wpList_store_row rfl 36 (.tmp 7) (.tmp 20) rfl _ x.o.c rfl rfl 36 _ (hS.at_ 0 rfl) (op_info _ hxs) ((OpV.size (o := zeroO) rfl).trans (OpV.size (o := x.o) hxs).symm) (ot_one HX.out.vc) ?_; intro wn hbn hgn hon hsn; have hS1 := hS.put 0 rfl hon hbn hgn; (try simp only [List.nil_append, List.cons_append, List.set_cons_zero, List.set_cons_succ] at hS1); clear hS hbn hgn hon hsn; have hS := hS1; clear hS1); have x67 := (cell_of_row _ _ 67 _ _ _ (hS.at_ 0 rfl)).trans (OpV.g67 hxs); have x70 := (cell_of_row _ _ 70 _ _ _ (hS.at_ 0 rfl)).trans (OpV.g70 hxs)) | ((with_reducible refine gate_op (op := .load 27 (.tmp 25)) rfl ?_); refine load_part rfl 27 (.tmp 25) rfl _ 68 rfl _ _ (0, 0) _ _ (hS.at_ 0 rfl) (OpV.pObj hxs) Tryz.underlying27 rfl (id_info _ _) ?_) | ((with_reducible refine gate_op (op := .load 27 (.tmp 3)) rfl ?_); refine wpList_load_row' rfl 27 (.tmp 3) rfl _ rfl 27 _ (0, 0) _ (IDB.out _ hS.below) Tryz.underlying27 rfl (id_info _ _) ?_))
            go_roundw
            case rel => exact ⟨j + 1, K, A', g', c', by omega, rfl, by go_num, ⟨by rw [HS.out, ← HK.out.1, hN.out], by have := HK.out.2.1; omega, HK.out.2.2.1, (HK.out.2.2.2.move hS.below)⟩, HSr.out.step hS.below⟩
            case measure => first | (simp [intOf]; done) | (simp [intOf]; omega)
          · have HOB : Hid (ofObj r n x = true) := Lib.hid (by unfold ofObj; rw [h1, h2, h3]; rfl)
            go_wp2_with (first | go_skip | ((with_reducible refine gate_op (op := .load 36 (.tmp 19)) rfl ?_); refine load_cells rfl 36 (.tmp 19) rfl _ _ rfl x.o.c _ cX.out Tryz.underlying36 rfl (op_info _ hxs) ?_) | ((with_reducible refine gate_op (op := .alloc 36) rfl ?_); refine alloc_arm rfl 36 rfl (op_alloc _) ?_; intro wn hbn hgn; have hS1 := hS.new hbn hgn; (try simp only [List.nil_append, List.cons_append, List.set_cons_zero, List.set_cons_succ] at hS1); clear hS hbn hgn; have hS := hS1; clear hS1) | (((with_reducible refine gate_op (op := .store 36 (.tmp 7) (.tmp 20)) rfl ?_); refine wpList_store_row rfl 36 (.tmp 7) (.tmp 20) rfl _ x.o.c rfl rfl 36 _ (hS.at_ 0 rfl) (op_info _ hxs) ((OpV.size (o := zeroO) rfl).trans (OpV.size (o := x.o) hxs).symm) (ot_one HX.out.vc) ?_; intro wn hbn hgn hon hsn; have hS1 := hS.put 0 rfl hon hbn hgn; (try simp only [List.nil_append, List.cons_append, List.set_cons_zero, List.set_cons_succ] at hS1); clear hS hbn hgn hon hsn; have hS := hS1; clear hS1); have x67 := (cell_of_row _ _ 67 _ _ _ (hS.at_ 0 rfl)).trans (OpV.g67 hxs); have x70 := (cell_of_row _ _ 70 _ _ _ (hS.at_ 0 rfl)).trans (OpV.g70 hxs)) | ((with_reducible refine gate_op (op := .load 27 (.tmp 25)) rfl ?_); refine load_part rfl 27 (.tmp 25) rfl _ 68 rfl _ _ (0, 0) _ _ (hS.at_ 0 rfl) (OpV.pObj hxs) Tryz.underlying27 rfl (id_info _ _) ?_) | ((with_reducible refine gate_op (op := .load 27 (.tmp 3)) rfl ?_); refine wpList_load_row' rfl 27 (.tmp 3) rfl _ rfl 27 _ (0, 0) _ (IDB.out _ hS.below) Tryz.underlying27 rfl (id_info _ _) ?_) | (go_at_call 16; (with_reducible (refine (rWord_any r n x.o.key A g o c L _ (((HL.out.move HSr.out.below).move (hS.below.mono HSr.out.below.size)).up (Nat.le_trans HSr.out.below.size hS.below.size)) HN.out HXK.out).mono ?_)); rintro e wn ⟨rfl, hbn⟩; have x70 := x70; have hS1 := hS.step hbn; clear hS hbn; have hS := hS1; clear hS1) | ((with_reducible refine gate_op (op := .store 36 (.tmp 8) (.tmp 36)) rfl ?_); refine wpList_store_row rfl 36 (.tmp 8) (.tmp 36) rfl _ (wdFold r n x.o.key L).1.o.c rfl rfl 36 _ (hS.at_ 1 rfl) (op_info _ hms) ((OpV.size (o := zeroO) rfl).trans (OpV.size (o := (wdFold r n x.o.key L).1.o) hms).symm) (ot_one HM.out.vc) ?_; intro wn hbn hgn hon hsn; have hS1 := hS.put 1 rfl hon hbn hgn; (try simp only [List.nil_append, List.cons_append, List.set_cons_zero, List.set_cons_succ] at hS1); clear hS hbn hgn hon hsn; have hS := hS1; clear hS1))
            have hS2 := hS.drop (n := 1)
            simp only [List.take_succ_cons, List.take_zero] at hS2
            clear hS x67 x70 cX ix
            have hS := hS2
            clear hS2
            have hK1 := HK.out.2.1
            have HO := Lib.hid (show keyStep r n L K x = if wordOn r n L x.o.key && !(K[posK x.o.key K]? == some x.o.key.data.toList) then K.take (posK x.o.key K) ++ x.o.key.data.toList :: K.drop (posK x.o.key K) else K from by unfold keyStep; rw [HOB.out, Bool.true_and])
            cases hwo : ((wdFold r n x.o.key L).2 && (wdFold r n x.o.key L).1.o.K == 1)
            · have HWO : Hid (wordOn r n L x.o.key = false) := Lib.hid hwo
              clear hwo
              go_loopw [10] (fun iv wz => ∃ m : Nat, m ≤ K.length ∧ iv = .int .i64 (m : Int) ∧ (∀ (i : Nat) s, i < m → K[i]? = some s → lsK x.o.key s = true) ∧ Boxes wr wz [(wr.heap.size, Obj.cells x.o.c 36)]) (fun iv _ => K.length - (intOf iv).toNat)
              case atStart => exact ⟨0, Nat.zero_le _, rfl, fun i s hi => absurd hi (Nat.not_lt_zero i), hS⟩
              case round =>
                clear hS
                rename World => wz
                obtain ⟨m, hm, rfl, hlow, hS⟩ := hrel
                have HLOW := Lib.hid hlow
                clear hlow
                have x70 := cell_regrown ((cell_of_row _ _ 70 _ _ _ (hS.at_ 0 rfl)).trans (OpV.g70 hxs))
                by_cases hmk : m < K.length
                · have hmb : decide ((m : Int) < K.length) = true := by simp; omega
                  obtain ⟨s, hs⟩ : ∃ s, K[m]? = some s := ⟨_, List.getElem?_eq_getElem hmk⟩
                  have HSs := Lib.hid hs
                  obtain ⟨hA, hg⟩ := HK.out.2.2.2.a (by omega)
                  subst hA
                  have km := cell_regrown ((HK.out.2.2.2.move hS.below).c m s hs)
                  clear hs hg
                  cases hl2 : Op.bytesLess (kb s).toList x.o.key.toList
                  · go_wp2_with go_skip
                    refine wp_region_quiet_below (by kernel_rfl) (by kernel_rfl) ?_
                    repeat (first | go_big_quiet_skip | (quiet_step (fail)))
                    refine wpQuiet_nil ?_; rintro wy ⟨⟨dq, osq⟩, rfl⟩; have hbn := below_regrown wz dq osq; generalize Go.Sort.grow (redrawn wz dq) osq = wy at *
                    have hS1 := hS.step hbn; clear hS hbn; have hS := hS1; clear hS1
                    rename World => wz
                    clear x70 km
                    have x70 := cell_regrown ((cell_of_row _ _ 70 _ _ _ (hS.at_ 0 rfl)).trans (OpV.g70 hxs))
                    have km := cell_regrown ((HK.out.2.2.2.move hS.below).c m s HSs.out)
                    go_wp2_with go_skip
                    refine wp_region_quiet_below (by kernel_rfl) (by kernel_rfl) ?_
                    repeat (first | go_big_quiet_skip | (quiet_step (fail)))
                    refine wpQuiet_nil ?_; rintro wy ⟨⟨dq, osq⟩, rfl⟩; have hbn := below_regrown wz dq osq; generalize Go.Sort.grow (redrawn wz dq) osq = wy at *
                    have hS1 := hS.step hbn; clear hS hbn; have hS := hS1; clear hS1
                    rename World => wz
                    go_wp2_with go_skip
                    go_roundw
                    case rel => exact ⟨j + 1, K, _, g', c', by omega, rfl, by go_num, ⟨by rw [HS.out, ← HK.out.1, HO.out, if_neg]; rw [HWO.out]; simp, by have := HK.out.2.1; omega, HK.out.2.2.1, HK.out.2.2.2.move hS.below⟩, HSr.out.step hS.below⟩
                    case measure => first | (simp [intOf]; done) | (simp [intOf]; omega)
                  · go_wp2_with go_skip
                    refine wp_region_quiet_below (by kernel_rfl) (by kernel_rfl) ?_
                    repeat (first | go_big_quiet_skip | (quiet_step (fail)))
                    refine wpQuiet_nil ?_; rintro wy ⟨⟨dq, osq⟩, rfl⟩; have hbn := below_regrown wz dq osq; generalize Go.Sort.grow (redrawn wz dq) osq = wy at *
                    have hS1 := hS.step hbn; clear hS hbn; have hS := hS1; clear hS1
                    rename World => wz
                    go_wp2_with go_skip
                    go_roundw
                    case rel => exact ⟨m + 1, by omega, by go_num, fun i u hi hu => by rcases (show i < m ∨ i = m by omega) with h | h; exact HLOW.out i u h hu; subst h; obtain rfl := Option.some.inj (HSs.out.symm.trans hu); exact hl2, hS⟩
                    case measure => first | (simp [intOf]; done) | (simp [intOf]; omega)
                · have hmb : decide ((m : Int) < K.length) = false := by simp; omega
                  obtain rfl : m = K.length := by omega
                  go_wp2_with go_skip
                  refine wp_region_quiet_below (by kernel_rfl) (by kernel_rfl) ?_
                  repeat (first | go_big_quiet_skip | (quiet_step (fail)))
                  refine wpQuiet_nil ?_; rintro wy ⟨⟨dq, osq⟩, rfl⟩; have hbn := below_regrown wz dq osq; generalize Go.Sort.grow (redrawn wz dq) osq = wy at *
                  have hS1 := hS.step hbn; clear hS hbn; have hS := hS1; clear hS1
                  rename World => wz
                  go_wp2_with go_skip
                  refine wp_region_quiet_below (by kernel_rfl) (by kernel_rfl) ?_
                  repeat (first | go_big_quiet_skip | (quiet_step (fail)))
                  refine wpQuiet_nil ?_; rintro wy ⟨⟨dq, osq⟩, rfl⟩; have hbn := below_regrown wz dq osq; generalize Go.Sort.grow (redrawn wz dq) osq = wy at *
                  have hS1 := hS.step hbn; clear hS hbn; have hS := hS1; clear hS1
                  rename World => wz
                  go_wp2_with go_skip
                  go_roundw
                  case rel => exact ⟨j + 1, K, _, g', c', by omega, rfl, by go_num, ⟨by rw [HS.out, ← HK.out.1, HO.out, if_neg]; rw [HWO.out]; simp, by have := HK.out.2.1; omega, HK.out.2.2.1, HK.out.2.2.2.move hS.below⟩, HSr.out.step hS.below⟩
                  case measure => first | (simp [intOf]; done) | (simp [intOf]; omega)

            · have HWO : Hid (wordOn r n L x.o.key = true) := Lib.hid hwo
              clear hwo
              go_loopw [10] (fun iv wz => ∃ m : Nat, m ≤ K.length ∧ iv = .int .i64 (m : Int) ∧ (∀ (i : Nat) s, i < m → K[i]? = some s → lsK x.o.key s = true) ∧ Boxes wr wz [(wr.heap.size, Obj.cells x.o.c 36)]) (fun iv _ => K.length - (intOf iv).toNat)
              case atStart => exact ⟨0, Nat.zero_le _, rfl, fun i s hi => absurd hi (Nat.not_lt_zero i), hS⟩
              case round =>
                clear hS
                rename World => wz
                obtain ⟨m, hm, rfl, hlow, hS⟩ := hrel
                have HLOW := Lib.hid hlow
                clear hlow
                have x70 := cell_regrown ((cell_of_row _ _ 70 _ _ _ (hS.at_ 0 rfl)).trans (OpV.g70 hxs))
                by_cases hmk : m < K.length
                · have hmb : decide ((m : Int) < K.length) = true := by simp; omega
                  obtain ⟨s, hs⟩ : ∃ s, K[m]? = some s := ⟨_, List.getElem?_eq_getElem hmk⟩
                  have HSs := Lib.hid hs
                  obtain ⟨hA, hg⟩ := HK.out.2.2.2.a (by omega)
                  subst hA
                  have km := cell_regrown ((HK.out.2.2.2.move hS.below).c m s hs)
                  clear hs hg
                  cases hl2 : Op.bytesLess (kb s).toList x.o.key.toList
                  · have HP := Lib.hid (posK_eq (key := x.o.key) hm HLOW.out (fun u hu => by obtain rfl := Option.some.inj (HSs.out.symm.trans hu); exact hl2))
                    have hmne : ((m : Int) == K.length) = false := by rw [beq_eq_false_iff_ne]; omega
                    go_wp2_with go_skip
                    refine wp_region_quiet_below (by kernel_rfl) (by kernel_rfl) ?_
                    repeat (first | go_big_quiet_skip | (quiet_step (fail)))
                    refine wpQuiet_nil ?_; rintro wy ⟨⟨dq, osq⟩, rfl⟩; have hbn := below_regrown wz dq osq; generalize Go.Sort.grow (redrawn wz dq) osq = wy at *
                    have hS1 := hS.step hbn; clear hS hbn; have hS := hS1; clear hS1
                    rename World => wz
                    clear x70 km
                    have x70 := cell_regrown ((cell_of_row _ _ 70 _ _ _ (hS.at_ 0 rfl)).trans (OpV.g70 hxs))
                    have km := cell_regrown ((HK.out.2.2.2.move hS.below).c m s HSs.out)
                    cases he : ((kb s).toList == x.o.key.toList)
                    · have HNE : Hid ((K[m]? == some x.o.key.data.toList) = false) := Lib.hid (by
                        rw [HSs.out, beq_eq_false_iff_ne]
                        intro h
                        rw [beq_eq_false_iff_ne] at he
                        rw [Option.some.inj h, kb_data] at he
                        exact he rfl)
                      go_wp2_with go_skip
                      refine wp_region_quiet_below (by kernel_rfl) (by kernel_rfl) ?_
                      repeat (first | go_big_quiet_skip | (quiet_step (fail)))
                      refine wpQuiet_nil ?_; rintro wy ⟨⟨dq, osq⟩, rfl⟩; have hbn := below_regrown wz dq osq; generalize Go.Sort.grow (redrawn wz dq) osq = wy at *
                      have hS1 := hS.step hbn; clear hS hbn; have hS := hS1; clear hS1
                      rename World => wz
                      go_wp2_with go_skip
                      have hKK := HK.out.2.2.2.move hS.below
                      have hc' := HK.out.2.2.1
                      refine regKeys12 (by kernel_rfl) (K := K) (key := x.o.key.data.toList) (box := x.o.c) (of_decide_eq_true (by kernel_rfl)) rfl rfl rfl hm hc' (by omega) hKK (hS.at_ 0 rfl) (by rw [kb_data]; exact OpV.g70 hxs) ?_
                      intro θ wy hown hbn
                      have hS1 := hS.step hbn; clear hS hbn; have hS := hS1; clear hS1
                      have hlen : (K.take m ++ x.o.key.data.toList :: K.drop m).length = K.length + 1 := by rw [List.length_append, List.length_take, List.length_cons, List.length_drop]; omega
                      obtain ⟨A2, g2, c2, e12, hs2⟩ := sin_of_row hown hlen.symm
                      rw [e12] at hown
                      have hcap := owns_cap hown
                      simp only [seqTo, dstOf, Act.put, List.getElem?_toArray, List.getElem?_cons_zero, List.getElem?_cons_succ, Option.bind_some, List.setIfInBounds_toArray, List.set_cons_zero, List.set_cons_succ, List.drop_succ_cons, List.drop_zero]
                      rw [e12]
                      clear e12 hown hKK x70
                      go_wp2_with go_skip
                      go_roundw
                      case rel => exact ⟨j + 1, K.take m ++ x.o.key.data.toList :: K.drop m, A2, g2, c2, by omega, by rw [hlen], by go_num, ⟨by rw [HS.out, ← HK.out.1, HO.out, HP.out, HWO.out, HNE.out]; rfl, by omega, by omega, hs2⟩, HSr.out.step hS.below⟩
                      case measure => first | (simp [intOf]; done) | (simp [intOf]; omega)
                    · have HEQ : Hid ((K[m]? == some x.o.key.data.toList) = true) := Lib.hid (by
                        rw [HSs.out, beq_iff_eq]
                        exact congrArg some (by
                          have h := congrArg (fun b : ByteArray => b.data.toList) (ba_eq (beq_iff_eq.1 he))
                          simpa [kb] using h))
                      go_wp2_with go_skip
                      refine wp_region_quiet_below (by kernel_rfl) (by kernel_rfl) ?_
                      repeat (first | go_big_quiet_skip | (quiet_step (fail)))
                      refine wpQuiet_nil ?_; rintro wy ⟨⟨dq, osq⟩, rfl⟩; have hbn := below_regrown wz dq osq; generalize Go.Sort.grow (redrawn wz dq) osq = wy at *
                      have hS1 := hS.step hbn; clear hS hbn; have hS := hS1; clear hS1
                      rename World => wz
                      go_wp2_with go_skip
                      go_roundw
                      case rel => exact ⟨j + 1, K, _, g', c', by omega, rfl, by go_num, ⟨by rw [HS.out, ← HK.out.1, HO.out, if_neg]; rw [HP.out, HEQ.out]; simp, by have := HK.out.2.1; omega, HK.out.2.2.1, HK.out.2.2.2.move hS.below⟩, HSr.out.step hS.below⟩
                      case measure => first | (simp [intOf]; done) | (simp [intOf]; omega)
                  · go_wp2_with go_skip
                    refine wp_region_quiet_below (by kernel_rfl) (by kernel_rfl) ?_
                    repeat (first | go_big_quiet_skip | (quiet_step (fail)))
                    refine wpQuiet_nil ?_; rintro wy ⟨⟨dq, osq⟩, rfl⟩; have hbn := below_regrown wz dq osq; generalize Go.Sort.grow (redrawn wz dq) osq = wy at *
                    have hS1 := hS.step hbn; clear hS hbn; have hS := hS1; clear hS1
                    rename World => wz
                    go_wp2_with go_skip
                    go_roundw
                    case rel => exact ⟨m + 1, by omega, by go_num, fun i u hi hu => by rcases (show i < m ∨ i = m by omega) with h | h; exact HLOW.out i u h hu; subst h; obtain rfl := Option.some.inj (HSs.out.symm.trans hu); exact hl2, hS⟩
                    case measure => first | (simp [intOf]; done) | (simp [intOf]; omega)
                · have hmb : decide ((m : Int) < K.length) = false := by simp; omega
                  obtain rfl : m = K.length := by omega
                  have HP := Lib.hid (posK_eq (key := x.o.key) hm HLOW.out (fun u hu => by have := (List.getElem?_eq_some_iff.1 hu).1; omega))
                  have HNE : Hid ((K[K.length]? == some x.o.key.data.toList) = false) := Lib.hid (by rw [List.getElem?_eq_none (Nat.le_refl _)]; rfl)
                  go_wp2_with go_skip
                  refine wp_region_quiet_below (by kernel_rfl) (by kernel_rfl) ?_
                  repeat (first | go_big_quiet_skip | (quiet_step (fail)))
                  refine wpQuiet_nil ?_; rintro wy ⟨⟨dq, osq⟩, rfl⟩; have hbn := below_regrown wz dq osq; generalize Go.Sort.grow (redrawn wz dq) osq = wy at *
                  have hS1 := hS.step hbn; clear hS hbn; have hS := hS1; clear hS1
                  rename World => wz
                  go_wp2_with go_skip
                  refine wp_region_quiet_below (by kernel_rfl) (by kernel_rfl) ?_
                  repeat (first | go_big_quiet_skip | (quiet_step (fail)))
                  refine wpQuiet_nil ?_; rintro wy ⟨⟨dq, osq⟩, rfl⟩; have hbn := below_regrown wz dq osq; generalize Go.Sort.grow (redrawn wz dq) osq = wy at *
                  have hS1 := hS.step hbn; clear hS hbn; have hS := hS1; clear hS1
                  rename World => wz
                  go_wp2_with go_skip
                  have hKK := HK.out.2.2.2.move hS.below
                  have hc' := HK.out.2.2.1
                  refine regKeys12 (by kernel_rfl) (K := K) (key := x.o.key.data.toList) (box := x.o.c) (of_decide_eq_true (by kernel_rfl)) rfl rfl rfl hm hc' (by omega) hKK (hS.at_ 0 rfl) (by rw [kb_data]; exact OpV.g70 hxs) ?_
                  intro θ wy hown hbn
                  have hS1 := hS.step hbn; clear hS hbn; have hS := hS1; clear hS1
                  have hlen : (K.take K.length ++ x.o.key.data.toList :: K.drop K.length).length = K.length + 1 := by rw [List.length_append, List.length_take, List.length_cons, List.length_drop]; omega
                  obtain ⟨A2, g2, c2, e12, hs2⟩ := sin_of_row hown hlen.symm
                  rw [e12] at hown
                  have hcap := owns_cap hown
                  simp only [seqTo, dstOf, Act.put, List.getElem?_toArray, List.getElem?_cons_zero, List.getElem?_cons_succ, Option.bind_some, List.setIfInBounds_toArray, List.set_cons_zero, List.set_cons_succ, List.drop_succ_cons, List.drop_zero]
                  rw [e12]
                  clear e12 hown hKK x70
                  go_wp2_with go_skip
                  go_roundw
                  case rel => exact ⟨j + 1, K.take K.length ++ x.o.key.data.toList :: K.drop K.length, A2, g2, c2, by omega, by rw [hlen], by go_num, ⟨by rw [HS.out, ← HK.out.1, HO.out, HP.out, HWO.out, HNE.out]; rfl, by omega, by omega, hs2⟩, HSr.out.step hS.below⟩
                  case measure => first | (simp [intOf]; done) | (simp [intOf]; omega)
    · have hge : decide ((j : Int) < L.length) = false := by simp; omega
      obtain rfl : j = L.length := by omega
      have hE := HK.out.1
      rw [List.take_length] at hE
      subst hE
      go_wp2_with go_skip
      go_ret
      exact ⟨A', g', c', rfl, HK.out.2.2.2, hS.below⟩
end
end Go.Proofs.YteplcnpmdjdlkaaGreatDoor
