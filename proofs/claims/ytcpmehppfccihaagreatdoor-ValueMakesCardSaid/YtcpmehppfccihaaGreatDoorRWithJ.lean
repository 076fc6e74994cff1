/-
  The reference's With, at a map whose values are one value without parts. No condition.
-/
import Derived.Test.YtcpmehppfccihaaGreatDoorJ18
namespace Go.Proofs.YtcpmehppfccihaaGreatDoor
open Go.RowKit
set_option linter.unusedVariables false
set_option linter.unusedSimpArgs false
set_option linter.unusedSectionVars false
noncomputable def rwith10 : Array Oper := regOf Tryz.f24 10
def R10 (B b3 b7 i : Nat) (t : VT) (sM : Value) (k : Nat) (v : Value) (W : World) : Prop := match k with
  | 0 => v = .pointer (some ⟨b7, 4, none⟩)
  | 1 => v = sM
  | 2 => v = .pointer (some ⟨b3, 4, none⟩)
  | 3 => v = .slice t.mA t.mn t.mc
  | 4 => v = .int .i64 (i : Int)
  | 5 => v = .pointer (some ⟨t.mb, t.mo + i * 6, none⟩)
  | 6 => v = .agg (t.pc i)
  | 7 => ∃ b : Nat, v = .slice (some ⟨b, 0, none⟩) 1 1 ∧ W.heap[b]? = some (.cells (t.pc i) 34 (0, 0))
  | _ => True
theorem R10_stab (w0 : World) (B b3 b7 i : Nat) (t : VT) (sM : Value) : Stab w0 (R10 B b3 b7 i t sM) := by
  intro k v W W' hb h h'
  match k, h with
  | 0, h => exact h
  | 1, h => exact h
  | 2, h => exact h
  | 3, h => exact h
  | 4, h => exact h
  | 5, h => exact h
  | 6, h => exact h
  | 7, ⟨b, e, hr⟩ => exact ⟨b, e, (h'.block b (Array.getElem?_eq_some_iff.1 hr).1).trans hr⟩
  | n + 8, h => exact trivial
theorem slice_pc (t : VT) (i : Nat) (W : World) : (Instr.buildSlice 25 1 #[(0, .agg (t.pc i))]).run Tryz.prog W = .ok (.slice (some ⟨W.heap.size, 0, none⟩) 1 1) (W.alloc (.cells (t.pc i) 34)) := by kernel_rfl
set_option maxRecDepth 100000 in
set_option maxHeartbeats 1000000 in
theorem regRW10 {ops : Array Oper} (hops : ops = rwith10) {Q : Exit → Act → World → Prop} {a0 : Act} {wr : World} {b3 b7 i : Nat} {t : VT} {sM : Value} (hz : 67 ≤ a0.tmps.size)
    (h3 : a0.eval (.tmp 3) = .pointer (some ⟨b3, 0, none⟩)) (h7 : a0.eval (.tmp 7) = .pointer (some ⟨b7, 0, none⟩)) (h9 : a0.eval (.tmp 9) = .int .i64 (i : Int)) (hi : i < t.mn)
    (hbox : wr.heap[b3]? = some (.cells t.c 27 (0, 0))) (hout : wr.heap[b7]? = some (.cells (outM sM) 27 (0, 0))) (ht : VT.In wr.heap.size wr t)
    (hend : ∀ θ W (b : Nat), θ 1 = sM → θ 7 = .slice (some ⟨b, 0, none⟩) 1 1 → W.heap[b]? = some (.cells (t.pc i) 34 (0, 0)) → Below wr.heap.size wr W → wpList Tryz.prog ops Q (ops.toList.drop 8) (seqTo ops θ a0 8) W) :
    (Code.region 10 ops true).wp Tryz.prog Q a0 wr := by
  subst hops
  have hl3 : b3 < wr.heap.size := (Array.getElem?_eq_some_iff.1 hbox).1
  have hl7 : b7 < wr.heap.size := (Array.getElem?_eq_some_iff.1 hout).1
  have hsz : ∀ t, t < 67 → decide (t < a0.tmps.size) = true := fun t ht => decide_eq_true (by omega)
  have hst := R10_stab wr wr.heap.size b3 b7 i t sM
  have HA := ht.here
  refine wp_region_env 8 (by kernel_rfl) (by kernel_rfl) (by kernel_rfl) (of_decide_eq_true (by kernel_rfl)) (by kernel_rfl) (EnvC wr 8 (R10 wr.heap.size b3 b7 i t sM)) EnvC.start ?_ ?_
  · intro k o hk ho θ L W hC hLk hdep hlat
    have hB := hC.1
    have hbx := (hB.block b3 hl3).trans hbox
    have hot := (hB.block b7 hl7).trans hout
    rcases (show k = 0 ∨ k = 1 ∨ k = 2 ∨ k = 3 ∨ k = 4 ∨ k = 5 ∨ k = 6 ∨ k = 7 by omega) with rfl | rfl | rfl | rfl | rfl | rfl | rfl | rfl
    · exact if_want (want_of ho (by kernel_rfl) _) (gives_field 27 (.tmp 7) 4 (op_of ho (by kernel_rfl)) (seq_old (by kernel_rfl) h7) (field4 b7) (hC.keep hst rfl))
    · have e0 : θ 0 = .pointer (some ⟨b7, 4, none⟩) := hC.2 0 (by decide) (hdep 0 (by kernel_rfl))
      exact if_want (want_of ho (by kernel_rfl) _) (gives_load_cell 25 (.tmp 46) (op_of ho (by kernel_rfl)) b7 4 (seq_at (by kernel_rfl) (hsz _ (by decide)) e0) _ _ sM hot rfl _ Tryz.underlying25 rfl (hC.keep hst rfl))
    · exact if_want (want_of ho (by kernel_rfl) _) (gives_field 27 (.tmp 3) 4 (op_of ho (by kernel_rfl)) (seq_old (by kernel_rfl) h3) (field4 b3) (hC.keep hst rfl))
    · have e2 : θ 2 = .pointer (some ⟨b3, 4, none⟩) := hC.2 2 (by decide) (hdep 2 (by kernel_rfl))
      exact if_want (want_of ho (by kernel_rfl) _) (gives_load_cell 25 (.tmp 48) (op_of ho (by kernel_rfl)) b3 4 (seq_at (by kernel_rfl) (hsz _ (by decide)) e2) _ _ (.slice t.mA t.mn t.mc) hbx rfl _ Tryz.underlying25 rfl (hC.keep hst rfl))
    · exact if_want (want_of ho (by kernel_rfl) _) (gives_move (.tmp 9) (op_of ho (by kernel_rfl)) (seq_old (by kernel_rfl) h9) (hC.keep hst rfl))
    · have e3 : θ 3 = .slice t.mA t.mn t.mc := hC.2 3 (by decide) (hdep 3 (by kernel_rfl))
      have e4 : θ 4 = .int .i64 (i : Int) := hC.2 4 (by decide) (hdep 4 (by kernel_rfl))
      exact if_want (want_of ho (by kernel_rfl) _) (gives_index_row 25 (.tmp 49) (.tmp 50) (op_of ho (by kernel_rfl)) (seq_at (by kernel_rfl) (hsz _ (by decide)) e3) (seq_at (by kernel_rfl) (hsz _ (by decide)) e4) (HA.mix hi) (hC.keep hst rfl))
    · have e5 : θ 5 = .pointer (some ⟨t.mb, t.mo + i * 6, none⟩) := hC.2 5 (by decide) (hdep 5 (by kernel_rfl))
      exact if_want (want_of ho (by kernel_rfl) _) (gives_load_cells 34 (.tmp 51) (op_of ho (by kernel_rfl)) t.mb (t.mo + i * 6) (seq_at (by kernel_rfl) (hsz _ (by decide)) e5) (t.pc i) _ ((HA.move hB).mcell i hi) Tryz.underlying34 rfl (VT.pair_info _ _) (hC.keep hst rfl))
    · have e6 : θ 6 = .agg (t.pc i) := hC.2 6 (by decide) (hdep 6 (by kernel_rfl))
      have hal := Below.alloc (Below.refl W.heap.size W) (Nat.le_refl _) (Obj.cells (t.pc i) 34)
      refine if_want (want_of ho (by kernel_rfl) _) (gives_slice 25 1 #[(0, .tmp 52)] (op_of ho (by kernel_rfl)) #[(0, .agg (t.pc i))] ?_ _ _ (slice_pc t i W) (hC.put hst hal ⟨W.heap.size, rfl, heap_alloc_new _ _⟩))
      simp only [List.map_toArray, List.map_cons, List.map_nil, seq_at (ops := rwith10) (θ := θ) (a0 := a0) (n := 7) (t := 52) (j := 6) (by kernel_rfl) (hsz _ (by decide)) e6]
  · intro θ L W hC hL
    obtain ⟨b, e7, hr⟩ := hC.2 7 (by decide) (by rw [hL]; rfl)
    exact hend θ W b (hC.2 1 (by decide) (by rw [hL]; rfl)) e7 hr hC.1
theorem outM_one {v : Value} (h : v.oneCell' = true) : (outM v).all (·.oneCell') = true := by simp [outM, Value.oneCell'] at *; exact h
theorem build_6 (W : World) : (Instr.build 27 #[(0, .int .i64 6)]).run Tryz.prog W = .ok (.agg (outM (.slice none 0 0))) W := by kernel_rfl
set_option maxRecDepth 100000 in
set_option maxHeartbeats 4000000 in
theorem rwith_go (A : Option Addr) (g c : Nat) (L : List ByteArray) (x : VT) (key : ByteArray) (w : World) (hx : ∀ B W, VT.In B W x) (ht : VT.In w.heap.size w (kmapT A g c L x)) (hL : L.length ≤ 1000) (hkl : AllSz L) (hks : key.size ≤ 9223372036854775807) :
    Calls Tryz.prog 24 #[.agg (kmapT A g c L x).c, .string key, .agg x.c] w fun e w' => ∃ g' c' : Nat, e = .returned (.agg (kmapT (some ⟨g', 0, none⟩) g' c' (withL key L) x).c) ∧ VT.In w'.heap.size w' (kmapT (some ⟨g', 0, none⟩) g' c' (withL key L) x) ∧ w.heap.size ≤ g' ∧ Below w.heap.size w w' := by
  have HT := Lib.hid ht
  have HA := ht.here
  have hS : Boxes w ((w.alloc (Obj.cells (kmapT A g c L x).c 27)).alloc (Obj.cells x.c 27)) [(w.heap.size, Obj.cells (kmapT A g c L x).c 27), (w.heap.size + 1, Obj.cells x.c 27)] := by
    have := ((Boxes.start w).alloc (Obj.cells (kmapT A g c L x).c 27)).alloc (Obj.cells x.c 27)
    simpa using this
  have hz0 : ((w.alloc (Obj.cells (kmapT A g c L x).c 27)).alloc (Obj.cells x.c 27)).heap.size = w.heap.size + 1 + 1 := by
    show ((w.heap.push _).push _).size = _
    rw [Array.size_push, Array.size_push]
  have b6 := Lib.hid build_6
  have HX := Lib.hid hx
  have HK := Lib.hid hks
  have HL := Lib.hid hL
  have HKL := Lib.hid hkl
  clear ht hx hks hL hkl
  go_enter Tryz.func24, Tryz.ntmps24
  go_wp2_with (first | go_skip | ((with_reducible refine gate_op (op := .alloc 27) rfl ?_); (try generalize ((w.alloc (Obj.cells (kmapT A g c L x).c 27)).alloc (Obj.cells x.c 27)) = W0 at *); refine alloc_armz rfl 27 rfl (val_alloc _) ?_; intro wn hbn hgn hzn; rw [hz0] at hzn; have hS1 := hS.new hbn hgn; rw [hz0] at hS1 ⊢; (try simp only [List.nil_append, List.cons_append, List.set_cons_zero, List.set_cons_succ] at hS1); clear hS hbn hgn hz0; have hS := hS1; have hz0 := hzn; clear hS1 hzn; try (rename World => W0)) | ((with_reducible refine gate_op (op := .build 27 #[(0, .const (.int .i64 6))]) rfl ?_); refine build_arm rfl 27 #[(0, .const (.int .i64 6))] rfl #[(0, .int .i64 6)] (by simp only [List.map_toArray, List.map_cons, List.map_nil]; rfl) _ (b6.out _) ?_) | ((with_reducible refine gate_op (op := .store 27 (.tmp 7) (.tmp 10)) rfl ?_); refine wpList_store_row rfl 27 (.tmp 7) (.tmp 10) rfl _ (outM (.slice none 0 0)) rfl rfl 27 _ (hS.at_ 3 rfl) (VT.val_info .no) rfl (outM_one rfl) ?_; intro wn hbn hgn hon hsn; have hS1 := hS.put 3 rfl hon hbn hgn; (try simp only [List.nil_append, List.cons_append, List.set_cons_zero, List.set_cons_succ] at hS1); clear hS hbn hgn hon hsn; have hS := hS1; clear hS1))
  rename World => w3
  have hI : RwI (kmapT A g c L x) x w (.slice none 0 0) [] w3 := by
    have hz : w.heap.size + 1 + 1 + 1 < w3.heap.size := hS.lt 3 rfl
    exact ⟨hS.below, hS.at_ 0 rfl, hS.at_ 1 rfl, hS.at_ 2 rfl, hS.at_ 3 rfl, hz, World.ownsRow_nil _ _ _ _⟩
  clear hS hz0
  obtain ⟨ip, hip, hz4⟩ := Option.map_eq_some_iff.1 pairInfo3
  have IP : Hid (ip.zero = some (.agg (pcK ⟨#[]⟩ .no)) ∧ ip.size = 6 ∧ ip.bytes = 96) := by
    injection hz4 with e1 e2
    injection e2 with e2 e3
    exact ⟨e1, e2, e3⟩
  have HIP := Lib.hid hip
  clear hz4 hip
  have p1 := Lib.hid build_p
  have p2 := Lib.hid slice_p1
  have hmn : (kmapT A g c L x).mn = L.length := rfl
  go_loopw [8, 9] (fun dv iv wr => ∃ (i : Nat) (sM : Value), i ≤ L.length ∧ iv = .int .i64 (i : Int) ∧ dv = .bool (wFold key (L.take i)).1 ∧ Hid (RwI (kmapT A g c L x) x w sM (wFold key (L.take i)).2 wr)) (fun _ iv _ => L.length - (intOf iv).toNat)
  case atStart => exact ⟨0, _, Nat.zero_le _, rfl, rfl, hI⟩
  case round =>
    clear hI
    rename_i wr
    obtain ⟨i, sM, hi, rfl, rfl, HI⟩ := hrel
    have hLb := HL.out
    have c4 : wr.cell? ⟨w.heap.size, 4, none⟩ = some (.slice (kmapT A g c L x).mA L.length (kmapT A g c L x).mc) := cell_of_row _ _ 4 _ _ _ HI.out.box
    by_cases hlt : i < L.length
    · have hltb : decide ((i : Int) < L.length) = true := by simp; omega
      obtain ⟨k, hk⟩ : ∃ k, L[i]? = some k := ⟨_, List.getElem?_eq_getElem hlt⟩
      have hkey : (kmapT A g c L x).key i = k := by show L.getD i ⟨#[]⟩ = k; rw [List.getD_eq_getElem?_getD, hk]; rfl
      have xa : ∀ W, (Instr.indexAt 25 (.slice (kmapT A g c L x).mA L.length (kmapT A g c L x).mc) (.int .i64 (i : Int))).run Tryz.prog W = .ok (.pointer (some ⟨(kmapT A g c L x).mb, (kmapT A g c L x).mo + i * 6, none⟩)) W := HA.mix (i := i) hlt
      have ck : wr.cell? ⟨(kmapT A g c L x).mb, (kmapT A g c L x).mo + i * 6, none⟩ = some (.string k) := by
        have := (HA.move HI.out.below).mkey (i := i) hlt
        rw [hkey] at this
        exact this
      have HKEY := Lib.hid hkey
      clear hkey
      have HS := Lib.hid (wFold_succ key L hk)
      have hel := wFold_len key (L.take i)
      have HE := Lib.hid (show (wFold key (L.take i)).2.length ≤ 1001 by have := HL.out; rw [List.length_take] at hel; omega)
      clear hk hel
      generalize wFold key (L.take i) = st at *
      obtain ⟨d, E⟩ := st
      have HE2 : Hid (E.length ≤ 1001) := HE
      have HI2 : Hid (RwI (kmapT A g c L x) x w sM E wr) := HI
      clear HE HI
      have HE := HE2
      have HI := HI2
      clear HE2 HI2
      have HE4 : ∀ k : ByteArray, Hid ((E ++ [k]).length ≤ 1002) := fun k => Lib.hid (by have := HE.out; simp; omega)
      cases hl : ltK k key
      · have hl' : Op.bytesLess k.toList key.toList = false := hl
        cases hq : eqK k key
        · have hq' : (k.toList == key.toList) = false := hq
          cases d
          · have c7 : wr.cell? ⟨w.heap.size + 1 + 1 + 1, 4, none⟩ = some sM := cell_of_row _ _ 4 _ _ _ HI.out.out
            have HST := Lib.hid (HS.out.trans (show wStep key (false, E) k = (true, (E ++ [key]) ++ [k]) by simp [wStep, hl, hq])); clear hl hq
            go_wp2_with (first | go_skip | ((with_reducible refine gate_op (op := .load 27 (.tmp 5)) rfl ?_); refine wpList_load_row' rfl 27 (.tmp 5) rfl _ rfl 27 _ (0, 0) _ HI.out.bx Tryz.underlying27 rfl (VT.val_info x) ?_) | ((with_reducible refine gate_op (op := .build 34 #[(0, .tmp 32), (1, .tmp 33)]) rfl ?_); refine build_arm rfl 34 #[(0, .tmp 32), (1, .tmp 33)] rfl #[(0, .string key), (1, .agg x.c)] (by simp only [List.map_toArray, List.map_cons, List.map_nil]; rfl) _ (p1.out key x _) ?_) | ((with_reducible refine gate_op (op := .buildSlice 25 1 #[(0, .tmp 34)]) rfl ?_); refine slice_arm rfl 25 1 #[(0, .tmp 34)] rfl #[(0, .agg (pcK key x))] (by simp only [List.map_toArray, List.map_cons, List.map_nil]; rfl) _ _ (p2.out key x _) ?_; intro wn hbn hrow; have H1 := Lib.hid (HI.out.step hbn); clear hbn c7) | ((with_reducible refine gate_op (op := .call { callee := .builtin .append, args := #[.tmp 31, .tmp 35], argTypes := #[25, 25] }) rfl ?_); refine wpList_append_own_at _ rfl (.tmp 31) (.tmp 35) 25 rfl (w.heap.size + 4) 34 ip (.agg (pcK ⟨#[]⟩ .no)) 6 96 Tryz.underlying25 HIP.out IP.out.1 IP.out.2.1 IP.out.2.2 rfl (by decide) sM E.length _ rfl H1.out.own ⟨_, 0, none⟩ 1 1 (pcK key x).toList rfl rfl (fun j u hu => by rw [add_at, Nat.zero_add, cell_of_row _ _ j _ _ _ hrow, ← Array.getElem?_toList]; exact hu) (all_mem (pcK_one _ _)) (by have := HE.out; unfold maxLen; omega) (by have := HE.out; omega) (by have := H1.out.size; omega) ?_; intro v' w2 hown' hgrow _ hat; have hb3 : w2.heap[w.heap.size + 3]? = some (.cells (outM sM) 27 (0, 0)) := (hgrow.block _ (by have := H1.out.size; omega) (fun e => by have := (own_at H1.out.own e.symm).1; omega)).trans H1.out.out; have HN := Lib.hid (fun wn hgn hon hbn hsn => H1.out.app (W3 := wn) hown' hgrow hgn hbn hon hsn); have HO := Lib.hid (own_one hown'); have HB := Lib.hid hb3; clear hown' hgrow hat hrow hb3 H1) | ((with_reducible refine gate_op (op := .store 25 (.tmp 37) (.tmp 36)) rfl ?_); refine store_elem rfl 25 (.tmp 37) _ rfl (w.heap.size + 3) 4 v' rfl rfl HO.out 27 _ _ HB.out rfl (by kernel_rfl) ?_; intro wn hgn hon hbn hsn; have H2 := Lib.hid (HN.out wn hgn hon hbn hsn); clear hgn hon hbn hsn HB HO HN; have c4' : wn.cell? ⟨w.heap.size, 4, none⟩ = some (.slice (kmapT A g c L x).mA L.length (kmapT A g c L x).mc) := cell_of_row _ _ 4 _ _ _ H2.out.box; have ck' : wn.cell? ⟨(kmapT A g c L x).mb, (kmapT A g c L x).mo + i * 6, none⟩ = some (.string k) := by have := (HA.move H2.out.below).mkey (i := i) hlt; rw [HKEY.out] at this; exact this))
            rename Value => s2
            have H0 := H2
            have HE := HE4 key
            clear H2 c4' ck' HE4
            refine regRW10 (by kernel_rfl) (b3 := w.heap.size) (b7 := w.heap.size + 3) (i := i) (t := kmapT A g c L x) (sM := s2) (of_decide_eq_true (by kernel_rfl)) rfl rfl rfl hlt H0.out.box H0.out.out ((HT.out.move H0.out.below).up H0.out.below.size) ?_
            intro θ wY b e1 e7 hrow0 hY
            simp only [seqTo, dstOf, Act.put, List.getElem?_toArray, List.getElem?_cons_zero, List.getElem?_cons_succ, Option.bind_some, List.setIfInBounds_toArray, List.set_cons_zero, List.set_cons_succ, List.drop_succ_cons, List.drop_zero]
            rw [e1, e7]
            clear e1 e7
            have hrow : wY.heap[b]? = some (.cells (pcK k x) 34 (0, 0)) := by
              rw [← HKEY.out]
              exact hrow0
            have H1 := Lib.hid (H0.out.step hY)
            clear hrow0 hY
            ((with_reducible refine gate_op (op := .call { callee := .builtin .append, args := #[.tmp 47, .tmp 53], argTypes := #[25, 25] }) rfl ?_); refine wpList_append_own_at _ rfl (.tmp 47) (.tmp 53) 25 rfl (w.heap.size + 4) 34 ip (.agg (pcK ⟨#[]⟩ .no)) 6 96 Tryz.underlying25 HIP.out IP.out.1 IP.out.2.1 IP.out.2.2 rfl (by decide) s2 (E ++ [key]).length _ rfl H1.out.own ⟨_, 0, none⟩ 1 1 (pcK k x).toList rfl rfl (fun j u hu => by rw [add_at, Nat.zero_add, cell_of_row _ _ j _ _ _ hrow, ← Array.getElem?_toList]; exact hu) (all_mem (pcK_one _ _)) (by have := HE.out; unfold maxLen; omega) (by have := HE.out; omega) (by have := H1.out.size; omega) ?_; intro v' w2 hown' hgrow _ hat; have hb3 : w2.heap[w.heap.size + 3]? = some (.cells (outM s2) 27 (0, 0)) := (hgrow.block _ (by have := H1.out.size; omega) (fun e => by have := (own_at H1.out.own e.symm).1; omega)).trans H1.out.out; have HN := Lib.hid (fun wn hgn hon hbn hsn => H1.out.app (W3 := wn) hown' hgrow hgn hbn hon hsn); have HO := Lib.hid (own_one hown'); have HB := Lib.hid hb3; clear hown' hgrow hat hrow hb3 H1)
            go_wp2_with (first | go_skip | ((with_reducible refine gate_op (op := .store 25 (.tmp 55) (.tmp 54)) rfl ?_); refine store_elem rfl 25 (.tmp 55) _ rfl (w.heap.size + 3) 4 v' rfl rfl HO.out 27 _ _ HB.out rfl (by kernel_rfl) ?_; intro wn hgn hon hbn hsn; have H2 := Lib.hid (HN.out wn hgn hon hbn hsn); clear hgn hon hbn hsn HB HO HN; skip))
            go_roundw
            case rel => exact ⟨i + 1, v', by omega, by go_num, by rw [HST.out], by rw [HST.out]; exact H2⟩
            case measure => simp [intOf]; omega
          · have HST := Lib.hid (HS.out.trans (show wStep key (true, E) k = (true, E ++ [k]) by simp [wStep, hl, hq])); clear hl hq
            go_wp2_with go_skip
            refine regRW10 (by kernel_rfl) (b3 := w.heap.size) (b7 := w.heap.size + 3) (i := i) (t := kmapT A g c L x) (sM := sM) (of_decide_eq_true (by kernel_rfl)) rfl rfl rfl hlt HI.out.box HI.out.out ((HT.out.move HI.out.below).up HI.out.below.size) ?_
            intro θ wY b e1 e7 hrow0 hY
            simp only [seqTo, dstOf, Act.put, List.getElem?_toArray, List.getElem?_cons_zero, List.getElem?_cons_succ, Option.bind_some, List.setIfInBounds_toArray, List.set_cons_zero, List.set_cons_succ, List.drop_succ_cons, List.drop_zero]
            rw [e1, e7]
            clear e1 e7
            have hrow : wY.heap[b]? = some (.cells (pcK k x) 34 (0, 0)) := by
              rw [← HKEY.out]
              exact hrow0
            have H1 := Lib.hid (HI.out.step hY)
            clear hrow0 hY
            ((with_reducible refine gate_op (op := .call { callee := .builtin .append, args := #[.tmp 47, .tmp 53], argTypes := #[25, 25] }) rfl ?_); refine wpList_append_own_at _ rfl (.tmp 47) (.tmp 53) 25 rfl (w.heap.size + 4) 34 ip (.agg (pcK ⟨#[]⟩ .no)) 6 96 Tryz.underlying25 HIP.out IP.out.1 IP.out.2.1 IP.out.2.2 rfl (by decide) sM E.length _ rfl H1.out.own ⟨_, 0, none⟩ 1 1 (pcK k x).toList rfl rfl (fun j u hu => by rw [add_at, Nat.zero_add, cell_of_row _ _ j _ _ _ hrow, ← Array.getElem?_toList]; exact hu) (all_mem (pcK_one _ _)) (by have := HE.out; unfold maxLen; omega) (by have := HE.out; omega) (by have := H1.out.size; omega) ?_; intro v' w2 hown' hgrow _ hat; have hb3 : w2.heap[w.heap.size + 3]? = some (.cells (outM sM) 27 (0, 0)) := (hgrow.block _ (by have := H1.out.size; omega) (fun e => by have := (own_at H1.out.own e.symm).1; omega)).trans H1.out.out; have HN := Lib.hid (fun wn hgn hon hbn hsn => H1.out.app (W3 := wn) hown' hgrow hgn hbn hon hsn); have HO := Lib.hid (own_one hown'); have HB := Lib.hid hb3; clear hown' hgrow hat hrow hb3 H1)
            go_wp2_with (first | go_skip | ((with_reducible refine gate_op (op := .store 25 (.tmp 55) (.tmp 54)) rfl ?_); refine store_elem rfl 25 (.tmp 55) _ rfl (w.heap.size + 3) 4 v' rfl rfl HO.out 27 _ _ HB.out rfl (by kernel_rfl) ?_; intro wn hgn hon hbn hsn; have H2 := Lib.hid (HN.out wn hgn hon hbn hsn); clear hgn hon hbn hsn HB HO HN; skip))
            go_roundw
            case rel => exact ⟨i + 1, v', by omega, by go_num, by rw [HST.out], by rw [HST.out]; exact H2⟩
            case measure => simp [intOf]; omega
        · have hq' : (k.toList == key.toList) = true := hq
          cases d
          · have c7 : wr.cell? ⟨w.heap.size + 1 + 1 + 1, 4, none⟩ = some sM := cell_of_row _ _ 4 _ _ _ HI.out.out
            have HST := Lib.hid (HS.out.trans (show wStep key (false, E) k = (true, E ++ [key]) by simp [wStep, hl, hq])); clear hl hq
            go_wp2_with (first | go_skip | ((with_reducible refine gate_op (op := .load 27 (.tmp 5)) rfl ?_); refine wpList_load_row' rfl 27 (.tmp 5) rfl _ rfl 27 _ (0, 0) _ HI.out.bx Tryz.underlying27 rfl (VT.val_info x) ?_) | ((with_reducible refine gate_op (op := .build 34 #[(0, .tmp 32), (1, .tmp 33)]) rfl ?_); refine build_arm rfl 34 #[(0, .tmp 32), (1, .tmp 33)] rfl #[(0, .string key), (1, .agg x.c)] (by simp only [List.map_toArray, List.map_cons, List.map_nil]; rfl) _ (p1.out key x _) ?_) | ((with_reducible refine gate_op (op := .buildSlice 25 1 #[(0, .tmp 34)]) rfl ?_); refine slice_arm rfl 25 1 #[(0, .tmp 34)] rfl #[(0, .agg (pcK key x))] (by simp only [List.map_toArray, List.map_cons, List.map_nil]; rfl) _ _ (p2.out key x _) ?_; intro wn hbn hrow; have H1 := Lib.hid (HI.out.step hbn); clear hbn c7) | ((with_reducible refine gate_op (op := .call { callee := .builtin .append, args := #[.tmp 31, .tmp 35], argTypes := #[25, 25] }) rfl ?_); refine wpList_append_own_at _ rfl (.tmp 31) (.tmp 35) 25 rfl (w.heap.size + 4) 34 ip (.agg (pcK ⟨#[]⟩ .no)) 6 96 Tryz.underlying25 HIP.out IP.out.1 IP.out.2.1 IP.out.2.2 rfl (by decide) sM E.length _ rfl H1.out.own ⟨_, 0, none⟩ 1 1 (pcK key x).toList rfl rfl (fun j u hu => by rw [add_at, Nat.zero_add, cell_of_row _ _ j _ _ _ hrow, ← Array.getElem?_toList]; exact hu) (all_mem (pcK_one _ _)) (by have := HE.out; unfold maxLen; omega) (by have := HE.out; omega) (by have := H1.out.size; omega) ?_; intro v' w2 hown' hgrow _ hat; have hb3 : w2.heap[w.heap.size + 3]? = some (.cells (outM sM) 27 (0, 0)) := (hgrow.block _ (by have := H1.out.size; omega) (fun e => by have := (own_at H1.out.own e.symm).1; omega)).trans H1.out.out; have HN := Lib.hid (fun wn hgn hon hbn hsn => H1.out.app (W3 := wn) hown' hgrow hgn hbn hon hsn); have HO := Lib.hid (own_one hown'); have HB := Lib.hid hb3; clear hown' hgrow hat hrow hb3 H1) | ((with_reducible refine gate_op (op := .store 25 (.tmp 37) (.tmp 36)) rfl ?_); refine store_elem rfl 25 (.tmp 37) _ rfl (w.heap.size + 3) 4 v' rfl rfl HO.out 27 _ _ HB.out rfl (by kernel_rfl) ?_; intro wn hgn hon hbn hsn; have H2 := Lib.hid (HN.out wn hgn hon hbn hsn); clear hgn hon hbn hsn HB HO HN; have c4' : wn.cell? ⟨w.heap.size, 4, none⟩ = some (.slice (kmapT A g c L x).mA L.length (kmapT A g c L x).mc) := cell_of_row _ _ 4 _ _ _ H2.out.box; have ck' : wn.cell? ⟨(kmapT A g c L x).mb, (kmapT A g c L x).mo + i * 6, none⟩ = some (.string k) := by have := (HA.move H2.out.below).mkey (i := i) hlt; rw [HKEY.out] at this; exact this))
            rename Value => s2
            go_roundw
            case rel => exact ⟨i + 1, s2, by omega, by go_num, by rw [HST.out], by rw [HST.out]; exact H2⟩
            case measure => simp [intOf]; omega
          · have HST := Lib.hid (HS.out.trans (show wStep key (true, E) k = (true, E) by simp [wStep, hl, hq])); clear hl hq
            go_wp2_with go_skip
            go_roundw
            case rel => exact ⟨i + 1, sM, by omega, by go_num, by rw [HST.out], by rw [HST.out]; exact HI⟩
            case measure => simp [intOf]; omega
      · have hl' : Op.bytesLess k.toList key.toList = true := hl
        cases hq : eqK k key
        · have hq' : (k.toList == key.toList) = false := hq
          cases d
          · have HST := Lib.hid (HS.out.trans (show wStep key (false, E) k = (false, E ++ [k]) by simp [wStep, hl, hq])); clear hl hq
            go_wp2_with go_skip
            refine regRW10 (by kernel_rfl) (b3 := w.heap.size) (b7 := w.heap.size + 3) (i := i) (t := kmapT A g c L x) (sM := sM) (of_decide_eq_true (by kernel_rfl)) rfl rfl rfl hlt HI.out.box HI.out.out ((HT.out.move HI.out.below).up HI.out.below.size) ?_
            intro θ wY b e1 e7 hrow0 hY
            simp only [seqTo, dstOf, Act.put, List.getElem?_toArray, List.getElem?_cons_zero, List.getElem?_cons_succ, Option.bind_some, List.setIfInBounds_toArray, List.set_cons_zero, List.set_cons_succ, List.drop_succ_cons, List.drop_zero]
            rw [e1, e7]
            clear e1 e7
            have hrow : wY.heap[b]? = some (.cells (pcK k x) 34 (0, 0)) := by
              rw [← HKEY.out]
              exact hrow0
            have H1 := Lib.hid (HI.out.step hY)
            clear hrow0 hY
            ((with_reducible refine gate_op (op := .call { callee := .builtin .append, args := #[.tmp 47, .tmp 53], argTypes := #[25, 25] }) rfl ?_); refine wpList_append_own_at _ rfl (.tmp 47) (.tmp 53) 25 rfl (w.heap.size + 4) 34 ip (.agg (pcK ⟨#[]⟩ .no)) 6 96 Tryz.underlying25 HIP.out IP.out.1 IP.out.2.1 IP.out.2.2 rfl (by decide) sM E.length _ rfl H1.out.own ⟨_, 0, none⟩ 1 1 (pcK k x).toList rfl rfl (fun j u hu => by rw [add_at, Nat.zero_add, cell_of_row _ _ j _ _ _ hrow, ← Array.getElem?_toList]; exact hu) (all_mem (pcK_one _ _)) (by have := HE.out; unfold maxLen; omega) (by have := HE.out; omega) (by have := H1.out.size; omega) ?_; intro v' w2 hown' hgrow _ hat; have hb3 : w2.heap[w.heap.size + 3]? = some (.cells (outM sM) 27 (0, 0)) := (hgrow.block _ (by have := H1.out.size; omega) (fun e => by have := (own_at H1.out.own e.symm).1; omega)).trans H1.out.out; have HN := Lib.hid (fun wn hgn hon hbn hsn => H1.out.app (W3 := wn) hown' hgrow hgn hbn hon hsn); have HO := Lib.hid (own_one hown'); have HB := Lib.hid hb3; clear hown' hgrow hat hrow hb3 H1)
            go_wp2_with (first | go_skip | ((with_reducible refine gate_op (op := .store 25 (.tmp 55) (.tmp 54)) rfl ?_); refine store_elem rfl 25 (.tmp 55) _ rfl (w.heap.size + 3) 4 v' rfl rfl HO.out 27 _ _ HB.out rfl (by kernel_rfl) ?_; intro wn hgn hon hbn hsn; have H2 := Lib.hid (HN.out wn hgn hon hbn hsn); clear hgn hon hbn hsn HB HO HN; skip))
            go_roundw
            case rel => exact ⟨i + 1, v', by omega, by go_num, by rw [HST.out], by rw [HST.out]; exact H2⟩
            case measure => simp [intOf]; omega
          · have HST := Lib.hid (HS.out.trans (show wStep key (true, E) k = (true, E ++ [k]) by simp [wStep, hl, hq])); clear hl hq
            go_wp2_with go_skip
            refine regRW10 (by kernel_rfl) (b3 := w.heap.size) (b7 := w.heap.size + 3) (i := i) (t := kmapT A g c L x) (sM := sM) (of_decide_eq_true (by kernel_rfl)) rfl rfl rfl hlt HI.out.box HI.out.out ((HT.out.move HI.out.below).up HI.out.below.size) ?_
            intro θ wY b e1 e7 hrow0 hY
            simp only [seqTo, dstOf, Act.put, List.getElem?_toArray, List.getElem?_cons_zero, List.getElem?_cons_succ, Option.bind_some, List.setIfInBounds_toArray, List.set_cons_zero, List.set_cons_succ, List.drop_succ_cons, List.drop_zero]
            rw [e1, e7]
            clear e1 e7
            have hrow : wY.heap[b]? = some (.cells (pcK k x) 34 (0, 0)) := by
              rw [← HKEY.out]
              exact hrow0
            have H1 := Lib.hid (HI.out.step hY)
            clear hrow0 hY
            ((with_reducible refine gate_op (op := .call { callee := .builtin .append, args := #[.tmp 47, .tmp 53], argTypes := #[25, 25] }) rfl ?_); refine wpList_append_own_at _ rfl (.tmp 47) (.tmp 53) 25 rfl (w.heap.size + 4) 34 ip (.agg (pcK ⟨#[]⟩ .no)) 6 96 Tryz.underlying25 HIP.out IP.out.1 IP.out.2.1 IP.out.2.2 rfl (by decide) sM E.length _ rfl H1.out.own ⟨_, 0, none⟩ 1 1 (pcK k x).toList rfl rfl (fun j u hu => by rw [add_at, Nat.zero_add, cell_of_row _ _ j _ _ _ hrow, ← Array.getElem?_toList]; exact hu) (all_mem (pcK_one _ _)) (by have := HE.out; unfold maxLen; omega) (by have := HE.out; omega) (by have := H1.out.size; omega) ?_; intro v' w2 hown' hgrow _ hat; have hb3 : w2.heap[w.heap.size + 3]? = some (.cells (outM sM) 27 (0, 0)) := (hgrow.block _ (by have := H1.out.size; omega) (fun e => by have := (own_at H1.out.own e.symm).1; omega)).trans H1.out.out; have HN := Lib.hid (fun wn hgn hon hbn hsn => H1.out.app (W3 := wn) hown' hgrow hgn hbn hon hsn); have HO := Lib.hid (own_one hown'); have HB := Lib.hid hb3; clear hown' hgrow hat hrow hb3 H1)
            go_wp2_with (first | go_skip | ((with_reducible refine gate_op (op := .store 25 (.tmp 55) (.tmp 54)) rfl ?_); refine store_elem rfl 25 (.tmp 55) _ rfl (w.heap.size + 3) 4 v' rfl rfl HO.out 27 _ _ HB.out rfl (by kernel_rfl) ?_; intro wn hgn hon hbn hsn; have H2 := Lib.hid (HN.out wn hgn hon hbn hsn); clear hgn hon hbn hsn HB HO HN; skip))
            go_roundw
            case rel => exact ⟨i + 1, v', by omega, by go_num, by rw [HST.out], by rw [HST.out]; exact H2⟩
            case measure => simp [intOf]; omega
        · have hq' : (k.toList == key.toList) = true := hq
          cases d
          · have HST := Lib.hid (HS.out.trans (show wStep key (false, E) k = (false, E) by simp [wStep, hl, hq])); clear hl hq
            go_wp2_with go_skip
            go_roundw
            case rel => exact ⟨i + 1, sM, by omega, by go_num, by rw [HST.out], by rw [HST.out]; exact HI⟩
            case measure => simp [intOf]; omega
          · have HST := Lib.hid (HS.out.trans (show wStep key (true, E) k = (true, E) by simp [wStep, hl, hq])); clear hl hq
            go_wp2_with go_skip
            go_roundw
            case rel => exact ⟨i + 1, sM, by omega, by go_num, by rw [HST.out], by rw [HST.out]; exact HI⟩
            case measure => simp [intOf]; omega
    · have hge : decide ((i : Int) < L.length) = false := by simp; omega
      have hti : L.take i = L := List.take_of_length_le (by omega)
      rw [hti]
      rw [hti] at HI
      have hwl : withL key L = if (wFold key L).1 then (wFold key L).2 else (wFold key L).2 ++ [key] := rfl
      have hel := wFold_len key L
      have HE := Lib.hid (show (wFold key L).2.length ≤ 1001 by have := HL.out; omega)
      have HKS := Lib.hid (wFold_sz key L HKL.out HK.out)
      have HNE := Lib.hid (wFold_ne key L)
      generalize wFold key L = st at *
      obtain ⟨d, E⟩ := st
      have HE2 : Hid (E.length ≤ 1001) := HE
      have HI2 : Hid (RwI (kmapT A g c L x) x w sM E wr) := HI
      clear HE HI hti hel
      have HE := HE2
      have HI := HI2
      clear HE2 HI2
      cases d
      · have HWL := Lib.hid (show withL key L = E ++ [key] from hwl)
        have c7 : wr.cell? ⟨w.heap.size + 1 + 1 + 1, 4, none⟩ = some sM := cell_of_row _ _ 4 _ _ _ HI.out.out
        clear hwl
        go_wp2_with (first | ((with_reducible refine gate_op (op := .load 27 (.tmp 7)) rfl ?_); refine wpList_load_row' rfl 27 (.tmp 7) rfl _ rfl 27 _ (0, 0) _ H2.out.out Tryz.underlying27 rfl (VT.val_info .no) ?_) | ((with_reducible refine gate_op (op := .store 27 (.tmp 6) (.tmp 66)) rfl ?_); refine wpList_store_row rfl 27 (.tmp 6) (.tmp 66) rfl _ (outM v') rfl rfl 27 _ H2.out.res (VT.val_info .no) rfl (outM_one (own_one H2.out.own)) ?_; intro wn hbn hgn hon hsn) | (first | go_skip | ((with_reducible refine gate_op (op := .load 27 (.tmp 5)) rfl ?_); refine wpList_load_row' rfl 27 (.tmp 5) rfl _ rfl 27 _ (0, 0) _ HI.out.bx Tryz.underlying27 rfl (VT.val_info x) ?_) | ((with_reducible refine gate_op (op := .build 34 #[(0, .tmp 60), (1, .tmp 61)]) rfl ?_); refine build_arm rfl 34 #[(0, .tmp 60), (1, .tmp 61)] rfl #[(0, .string key), (1, .agg x.c)] (by simp only [List.map_toArray, List.map_cons, List.map_nil]; rfl) _ (p1.out key x _) ?_) | ((with_reducible refine gate_op (op := .buildSlice 25 1 #[(0, .tmp 62)]) rfl ?_); refine slice_arm rfl 25 1 #[(0, .tmp 62)] rfl #[(0, .agg (pcK key x))] (by simp only [List.map_toArray, List.map_cons, List.map_nil]; rfl) _ _ (p2.out key x _) ?_; intro wn hbn hrow; have H1 := Lib.hid (HI.out.step hbn); clear hbn c7) | ((with_reducible refine gate_op (op := .call { callee := .builtin .append, args := #[.tmp 59, .tmp 63], argTypes := #[25, 25] }) rfl ?_); refine wpList_append_own_at _ rfl (.tmp 59) (.tmp 63) 25 rfl (w.heap.size + 4) 34 ip (.agg (pcK ⟨#[]⟩ .no)) 6 96 Tryz.underlying25 HIP.out IP.out.1 IP.out.2.1 IP.out.2.2 rfl (by decide) sM E.length _ rfl H1.out.own ⟨_, 0, none⟩ 1 1 (pcK key x).toList rfl rfl (fun j u hu => by rw [add_at, Nat.zero_add, cell_of_row _ _ j _ _ _ hrow, ← Array.getElem?_toList]; exact hu) (all_mem (pcK_one _ _)) (by have := HE.out; unfold maxLen; omega) (by have := HE.out; omega) (by have := H1.out.size; omega) ?_; intro v' w2 hown' hgrow _ hat; have hb3 : w2.heap[w.heap.size + 3]? = some (.cells (outM sM) 27 (0, 0)) := (hgrow.block _ (by have := H1.out.size; omega) (fun e => by have := (own_at H1.out.own e.symm).1; omega)).trans H1.out.out; have HN := Lib.hid (fun wn hgn hon hbn hsn => H1.out.app (W3 := wn) hown' hgrow hgn hbn hon hsn); have HO := Lib.hid (own_one hown'); have HB := Lib.hid hb3; clear hown' hgrow hat hrow hb3 H1) | ((with_reducible refine gate_op (op := .store 25 (.tmp 65) (.tmp 64)) rfl ?_); refine store_elem rfl 25 (.tmp 65) _ rfl (w.heap.size + 3) 4 v' rfl rfl HO.out 27 _ _ HB.out rfl (by kernel_rfl) ?_; intro wn hgn hon hbn hsn; have H2 := Lib.hid (HN.out wn hgn hon hbn hsn); clear hgn hon hbn hsn HB HO HN; skip)))
        obtain ⟨g', c', ey, hy, hg'⟩ := H2.out.end_ HX.out (fun i _ => HKS.out.snoc HK.out i) (by simp) hon hsn
        refine bodyPost_ret (v := .agg (outM v')) (results_cell_row rfl _ _ _ _ _ _ _ rfl hgn Tryz.underlying27 rfl (VT.val_info .no)) rfl ⟨g', c', by rw [ey, HWL.out], by rw [HWL.out]; exact hy, hg', H2.out.below.trans (hbn.mono (by omega))⟩
      · have HWL := Lib.hid (show withL key L = E from hwl)
        have HS := own_one HI.out.own
        have O1 := Lib.hid (outM_one HS)
        clear hwl HS
        go_wp2_with (first | go_skip | (refine wpList_load_row' rfl 27 (.tmp 7) rfl _ rfl 27 _ (0, 0) _ HI.out.out Tryz.underlying27 rfl (VT.val_info .no) ?_) | (refine wpList_store_row rfl 27 (.tmp 6) (.tmp 66) rfl _ (outM sM) rfl rfl 27 _ HI.out.res (VT.val_info .no) rfl O1.out ?_; intro wn hbn hgn hon hsn))
        obtain ⟨g', c', ey, hy, hg'⟩ := HI.out.end_ HX.out (fun i _ => HKS.out i) (HNE.out (by simp)) hon hsn
        refine bodyPost_ret (v := .agg (outM sM)) (results_cell_row rfl _ _ _ _ _ _ _ rfl hgn Tryz.underlying27 rfl (VT.val_info .no)) rfl ⟨g', c', by rw [ey, HWL.out], by rw [HWL.out]; exact hy, hg', HI.out.below.trans (hbn.mono (by omega))⟩
end Go.Proofs.YtcpmehppfccihaaGreatDoor
