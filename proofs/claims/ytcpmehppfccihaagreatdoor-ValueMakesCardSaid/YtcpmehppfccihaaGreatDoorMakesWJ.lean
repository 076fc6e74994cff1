/-
  ValueMakes, walked: true for all texts, keys, numbers. Condition: the library's variables as it lays them.
-/
import Derived.Test.YtcpmehppfccihaaGreatDoorJ22
import Derived.Test.YtcpmehppfccihaaGreatDoorMakesRJ
import Derived.Test.YtcpmehppfccihaaGreatDoorJ25
import Derived.Test.YtcpmehppfccihaaGreatDoorRWithJ
import Derived.Test.YtcpmehppfccihaaGreatDoorJ10
import Derived.Deep.DeepCutAuto
import Derived.Deep.CutBlock
namespace Go.Proofs.YtcpmehppfccihaaGreatDoor
open Go.RowKit
set_option linter.unusedVariables false
set_option linter.unusedSimpArgs false
set_option linter.unusedSectionVars false
section
variable (s : ByteArray) (A : Option Addr) (kb ko c : Nat) (K : List ByteArray) (n : Int) (w : World) (hw : Vars w) (hK : KIn w.heap.size w A kb ko K) (hn : -9223372036854775808 ≤ n ∧ n ≤ 9223372036854775807)
include hw hK hn
set_option maxRecDepth 100000 in
set_option maxHeartbeats 4000000 in
theorem makes_go (hs : s.size ≤ 5000) (hl : K.length ≤ 20) : Calls Tryz.prog 4 #[.string s, .slice A K.length c, .int .i64 n] w fun e w' => e = .returned (.bool true) ∧ Below w.heap.size w w' := by
  obtain ⟨x, wt, y, z, e, f, e2, rv, io, g, ib, sb, ht⟩ := tells s w hw hs
  have HT := Lib.hid ht
  have HV := Lib.hid hw
  have HK := Lib.hid hK
  have HS := Lib.hid hs
  have HL := Lib.hid hl
  have d1 : decide ((5000 : Int) < s.size) = false := by simp; omega
  have d2 : decide ((20 : Int) < K.length) = false := by simp; omega
  have HX : Hid (∀ B W, VT.In B W (X4 n)) := Lib.hid (fun B W => VT.leaf_in B W 2 n _ hn.1 hn.2 (by decide) (by decide) (by decide))
  have b1 := Lib.hid build_ks
  have b2 := Lib.hid build_kn
  have b6 := Lib.hid build_6
  have hS := Boxes.start w
  clear ht hw hK hn
  go_enter Tryz.func4, Tryz.ntmps4
  go_upto_if 47 with (first | go_skip | (go_at_call 9; (with_reducible (refine (awake4_any _ (HV.out.step hS.below)).mono ?_)); rintro e wn ⟨rfl, hbn⟩; have hS1 := hS.step hbn; clear hS hbn; have hS := hS1; clear hS1) | (go_at_call 10; (with_reducible (refine (HT.out.cn _ hS.below).mono ?_)); rintro e wn ⟨rfl, hbn⟩; have hS1 := hS.step hbn; clear hS hbn; have hS := hS1; clear hS1) | (go_at_call 18; (with_reducible (refine (HT.out.ci _).mono ?_)); rintro e wn ⟨rfl, hbn⟩; have hS1 := hS.step hbn; clear hS hbn; have hS := hS1; clear hS1) | ((with_reducible refine gate_op (op := .build 27 #[(0, .const (.int .i64 3)), (2, .tmp 45)]) rfl ?_); refine build_arm rfl 27 #[(0, .const (.int .i64 3)), (2, .tmp 45)] rfl #[(0, .int .i64 3), (2, .string s)] (by simp only [List.map_toArray, List.map_cons, List.map_nil]; rfl) _ (b1.out 3 s _) ?_) | ((with_reducible refine gate_op (op := .alloc 27) rfl ?_); refine alloc_arm rfl 27 rfl (val_alloc _) ?_; intro wn hbn hgn; have hS1 := hS.new hbn hgn; (try simp only [List.nil_append, List.cons_append, List.set_cons_zero, List.set_cons_succ] at hS1); clear hS hbn hgn; have hS := hS1; clear hS1) | ((with_reducible refine gate_op (op := .store 27 (.tmp 7) (.tmp 38)) rfl ?_); refine wpList_store_row rfl 27 (.tmp 7) (.tmp 38) rfl _ (VT.c x) rfl rfl 27 _ (hS.at_ 0 rfl) (VT.val_info _) rfl (VT.c_one _) ?_; intro wn hbn hgn hon hsn; have hS1 := hS.put 0 rfl hon hbn hgn; (try simp only [List.nil_append, List.cons_append, List.set_cons_zero, List.set_cons_succ] at hS1); clear hS hbn hgn hon hsn; have hS := hS1; clear hS1) | ((with_reducible refine gate_op (op := .store 27 (.tmp 11) (.tmp 46)) rfl ?_); refine wpList_store_row rfl 27 (.tmp 11) (.tmp 46) rfl _ (VT.c (VT.leaf 3 0 s)) rfl rfl 27 _ (hS.at_ 1 rfl) (VT.val_info _) rfl (VT.c_one _) ?_; intro wn hbn hgn hon hsn; have hS1 := hS.put 1 rfl hon hbn hgn; (try simp only [List.nil_append, List.cons_append, List.set_cons_zero, List.set_cons_succ] at hS1); clear hS hbn hgn hon hsn; have hS := hS1; clear hS1))
  rename World => w2
  rename_i _ p7 _ _ p11 _ _
  go_cut [10] (fun _ wx => Boxes w wx [(p7.heap.size, Obj.cells x.c 27), (p11.heap.size, Obj.cells wt.c 27)])
  case first =>
    cases ib
    · obtain rfl : wt = VT.leaf 3 0 s := HT.out.ew
      go_wp2_with go_skip
      go_meet
      case rel => exact hS
    · obtain rfl : wt = VT.leaf 2 io ⟨#[]⟩ := HT.out.ew
      go_wp2_with (first | go_skip | ((with_reducible refine gate_op (op := .build 27 #[(0, .const (.int .i64 2)), (1, .tmp 48)]) rfl ?_); refine build_arm rfl 27 #[(0, .const (.int .i64 2)), (1, .tmp 48)] rfl #[(0, .int .i64 2), (1, .int .i64 io)] (by simp only [List.map_toArray, List.map_cons, List.map_nil]; rfl) _ (b2.out 2 io _) ?_) | ((with_reducible refine gate_op (op := .store 27 (.tmp 11) (.tmp 49)) rfl ?_); refine wpList_store_row rfl 27 (.tmp 11) (.tmp 49) rfl _ (VT.c (VT.leaf 2 io ⟨#[]⟩)) rfl rfl 27 _ (hS.at_ 1 rfl) (VT.val_info _) rfl (VT.c_one _) ?_; intro wn hbn hgn hon hsn; have hS1 := hS.put 1 rfl hon hbn hgn; (try simp only [List.nil_append, List.cons_append, List.set_cons_zero, List.set_cons_succ] at hS1); clear hS hbn hgn hon hsn; have hS := hS1; clear hS1))
      go_meet
      case rel => exact hS
  case rest =>
    clear hS
    have hS := hcut
    clear hcut
    go_upto_region 10 with go_skip
    go_cut [8, 72] (fun _ v wx => v = .bool false ∧ Below w.heap.size w wx)
    case first =>
      rcases HT.out.nr with ⟨rfl, rfl, rfl⟩ | ⟨rfl, rfl⟩
      · go_wp2_with (first | go_skip | (go_at_call 19; (with_reducible (refine (HT.out.cg _).mono ?_)); rintro e wn ⟨rfl, hbn⟩; have hS1 := hS.step hbn; clear hS hbn; have hS := hS1; clear hS1) | ((with_reducible refine gate_op (op := .load 27 (.tmp 7)) rfl ?_); refine wpList_load_row' rfl 27 (.tmp 7) rfl _ rfl 27 _ (0, 0) _ (hS.at_ 0 rfl) Tryz.underlying27 rfl (VT.val_info x) ?_) | ((with_reducible refine gate_op (op := .load 27 (.tmp 11)) rfl ?_); refine wpList_load_row' rfl 27 (.tmp 11) rfl _ rfl 27 _ (0, 0) _ (hS.at_ 1 rfl) Tryz.underlying27 rfl (VT.val_info x) ?_) | (go_at_call 20; (with_reducible (refine (HT.out.sx _).mono ?_)); rintro e wn ⟨rfl, hbn⟩; have hS1 := hS.step hbn; clear hS hbn; have hS := hS1; clear hS1))
        go_meet
        case rel => exact ⟨rfl, hS.below⟩
      · go_wp2_with (first | go_skip | (go_at_call 19; (with_reducible (refine (HT.out.cg _).mono ?_)); rintro e wn ⟨rfl, hbn⟩; have hS1 := hS.step hbn; clear hS hbn; have hS := hS1; clear hS1))
        go_meet
        case rel => exact ⟨rfl, hS.below⟩
    case rest =>
      obtain ⟨rfl, hB⟩ := hcut
      clear hS
      rename World => w3
      have BA := Lib.hid hB
      clear hB
      have hS := Boxes.start w3
      go_upto_block 0 with (first | go_skip | (go_at_call 11; (with_reducible (refine (HT.out.cs _).mono ?_)); rintro e wn ⟨rfl, hbn⟩; have hS1 := hS.step hbn; clear hS hbn; have hS := hS1; clear hS1) | ((with_reducible refine gate_op (op := .alloc 27) rfl ?_); refine alloc_arm rfl 27 rfl (val_alloc _) ?_; intro wn hbn hgn; have hS1 := hS.new hbn hgn; (try simp only [List.nil_append, List.cons_append, List.set_cons_zero, List.set_cons_succ] at hS1); clear hS hbn hgn; have hS := hS1; clear hS1) | ((with_reducible refine gate_op (op := .store 27 (.tmp 12) (.tmp 76)) rfl ?_); refine wpList_store_row rfl 27 (.tmp 12) (.tmp 76) rfl _ (VT.c y) rfl rfl 27 _ (hS.at_ 0 rfl) (VT.val_info _) rfl (VT.c_one _) ?_; intro wn hbn hgn hon hsn; have hS1 := hS.put 0 rfl hon hbn hgn; (try simp only [List.nil_append, List.cons_append, List.set_cons_zero, List.set_cons_succ] at hS1); clear hS hbn hgn hon hsn; have hS := hS1; clear hS1))
      rename_i _ p12 _ _ _
      go_cut [13] (fun _ wx => Boxes w3 wx [(p12.heap.size, Obj.cells y.c 27)])
      case first =>
        rcases HT.out.sr with ⟨hr, rfl⟩ | ⟨hr, h4, rfl⟩ | ⟨hr, h4, rfl, rfl⟩
        · have hb : decide (0 ≤ rv) = true := by simpa using hr
          go_wp2_with (first | go_skip | (go_at_call 21; (with_reducible (refine (HT.out.cv _).mono ?_)); rintro e wn ⟨rfl, hbn⟩; have hS1 := hS.step hbn; clear hS hbn; have hS := hS1; clear hS1))
          go_meet
          case rel => exact hS
        · have hb : decide (0 ≤ rv) = false := by simp; omega
          have hb4 : decide ((4096 : Int) < s.size) = true := by simp; omega
          go_wp2_with (first | go_skip | (go_at_call 21; (with_reducible (refine (HT.out.cv _).mono ?_)); rintro e wn ⟨rfl, hbn⟩; have hS1 := hS.step hbn; clear hS hbn; have hS := hS1; clear hS1))
          go_meet
          case rel => exact hS
        · have hb : decide (0 ≤ rv) = false := by simp; omega
          have hb4 : decide ((4096 : Int) < s.size) = false := by simp; omega
          go_wp2_with (first | go_skip | (go_at_call 21; (with_reducible (refine (HT.out.cv _).mono ?_)); rintro e wn ⟨rfl, hbn⟩; have hS1 := hS.step hbn; clear hS hbn; have hS := hS1; clear hS1) | ((with_reducible refine gate_op (op := .build 27 #[(0, .const (.int .i64 4)), (2, .tmp 95)]) rfl ?_); refine build_arm rfl 27 #[(0, .const (.int .i64 4)), (2, .tmp 95)] rfl #[(0, .int .i64 4), (2, .string s)] (by simp only [List.map_toArray, List.map_cons, List.map_nil]; rfl) _ (b1.out 4 s _) ?_) | ((with_reducible refine gate_op (op := .load 27 (.tmp 12)) rfl ?_); refine wpList_load_row' rfl 27 (.tmp 12) rfl _ rfl 27 _ (0, 0) _ (hS.at_ 0 rfl) Tryz.underlying27 rfl (VT.val_info (VT.leaf 4 0 s)) ?_) | (go_at_call 20; (with_reducible (refine (HT.out.sy _).mono ?_)); rintro e wn ⟨rfl, hbn⟩; have hS1 := hS.step hbn; clear hS hbn; have hS := hS1; clear hS1))
          go_meet
          case rel => exact hS
      case rest =>
        have hS1 := hcut
        clear hS hcut
        have hS := hS1
        clear hS1
        go_upto_region 22 with (first | go_skip | (go_at_call 12; (with_reducible (refine (HT.out.ct _).mono ?_)); rintro e wn ⟨rfl, hbn⟩; have hS1 := hS.step hbn; clear hS hbn; have hS := hS1; clear hS1) | ((with_reducible refine gate_op (op := .alloc 27) rfl ?_); refine alloc_arm rfl 27 rfl (val_alloc _) ?_; intro wn hbn hgn; have hS1 := hS.new hbn hgn; (try simp only [List.nil_append, List.cons_append, List.set_cons_zero, List.set_cons_succ] at hS1); clear hS hbn hgn; have hS := hS1; clear hS1) | ((with_reducible refine gate_op (op := .store 27 (.tmp 14) (.tmp 103)) rfl ?_); refine wpList_store_row rfl 27 (.tmp 14) (.tmp 103) rfl _ (VT.c z) rfl rfl 27 _ (hS.at_ 1 rfl) (VT.val_info _) rfl (VT.c_one _) ?_; intro wn hbn hgn hon hsn; have hS1 := hS.put 1 rfl hon hbn hgn; (try simp only [List.nil_append, List.cons_append, List.set_cons_zero, List.set_cons_succ] at hS1); clear hS hbn hgn hon hsn; have hS := hS1; clear hS1))
        rename_i p14 _ _ _
        go_cut [15, 119] (fun _ v wx => v = .bool false ∧ Below w3.heap.size w3 wx)
        case first =>
          rcases HT.out.tr with ⟨rfl, rfl, rfl⟩ | ⟨rfl, rfl⟩
          · go_wp2_with (first | go_skip | (go_at_call 22; (with_reducible (refine (HT.out.cb _).mono ?_)); rintro e wn ⟨rfl, hbn⟩; have hS1 := hS.step hbn; clear hS hbn; have hS := hS1; clear hS1) | ((with_reducible refine gate_op (op := .load 9 (.tmp 114)) rfl ?_); refine load_elem rfl 9 (.tmp 114) rfl _ _ rfl 27 _ (0, 0) (.string s) _ (hS.at_ 1 rfl) rfl Tryz.underlying9 rfl ?_))
            go_meet
            case rel => exact ⟨rfl, hS.below⟩
          · go_wp2_with (first | go_skip | (go_at_call 22; (with_reducible (refine (HT.out.cb _).mono ?_)); rintro e wn ⟨rfl, hbn⟩; have hS1 := hS.step hbn; clear hS hbn; have hS := hS1; clear hS1))
            go_meet
            case rel => exact ⟨rfl, hS.below⟩
        case rest =>
          obtain ⟨rfl, hB⟩ := hcut
          clear hS
          rename World => w4
          have BB := Lib.hid (BA.out.trans (hB.mono BA.out.size))
          clear hB
          have hS := Boxes.start w4
          go_wp2_with (first | go_skip | ((with_reducible refine gate_op (op := .build 27 #[(0, .const (.int .i64 6))]) rfl ?_); refine build_arm rfl 27 #[(0, .const (.int .i64 6))] rfl #[(0, .int .i64 6)] (by simp only [List.map_toArray, List.map_cons, List.map_nil]; rfl) _ (b6.out _) ?_) | ((with_reducible refine gate_op (op := .alloc 27) rfl ?_); refine alloc_arm rfl 27 rfl (val_alloc _) ?_; intro wn hbn hgn; have hS1 := hS.new hbn hgn; (try simp only [List.nil_append, List.cons_append, List.set_cons_zero, List.set_cons_succ] at hS1); clear hS hbn hgn; have hS := hS1; clear hS1) | ((with_reducible refine gate_op (op := .store 27 (.tmp 17) (.tmp 120)) rfl ?_); refine wpList_store_row rfl 27 (.tmp 17) (.tmp 120) rfl _ (VT.c (kmapT none 0 0 [] (X4 n))) rfl rfl 27 _ (hS.at_ 0 rfl) (VT.val_info _) rfl (VT.c_one _) ?_; intro wn hbn hgn hon hsn; have hS1 := hS.put 0 rfl hon hbn hgn; (try simp only [List.nil_append, List.cons_append, List.set_cons_zero, List.set_cons_succ] at hS1); clear hS hbn hgn hon hsn; have hS := hS1; clear hS1))
          have hM : MkI K n w4 w4.heap.size 0 0 (.slice none 0 0) none 0 0 _ := MkI.start (Nat.le_refl _) hS.below (hS.at_ 0 rfl)
          have TW0 : TwI K 0 0 := .inl ⟨rfl, List.Pairwise.nil⟩
          clear hS d1 d2 HT
          obtain ⟨ip, hip, hz4⟩ := Option.map_eq_some_iff.1 pairInfo3
          have IP : Hid (ip.zero = some (.agg (pcK ⟨#[]⟩ .no)) ∧ ip.size = 6 ∧ ip.bytes = 96) := by
            injection hz4 with e1 e2
            injection e2 with e2 e3
            exact ⟨e1, e2, e3⟩
          have HIP := Lib.hid hip
          clear hz4 hip
          go_loopw [16, 18, 19] (fun mv hv iv wr => ∃ (i : Nat) (h : Int) (A' : Option Addr) (g' c' : Nat) (sM : Value), i ≤ K.length ∧ iv = .int .i64 (i : Int) ∧ hv = .int .i64 h ∧ sM = mv ∧ Hid (TwI K i h) ∧ Hid (MkI K n w4 w4.heap.size i i sM A' g' c' wr)) (fun _ _ iv _ => K.length - (intOf iv).toNat)
          case atStart => exact ⟨0, 0, none, 0, 0, _, Nat.zero_le _, rfl, rfl, rfl, TW0, hM⟩
          case round =>
            clear hM TW0
            rename_i wr
            obtain ⟨i, h, A', g', c', sM, hi, rfl, rfl, rfl, HTW, HI⟩ := hrel
            by_cases hlt : i < K.length
            · have hltb : decide ((i : Int) < K.length) = true := by simp; omega
              have hKW : KIn wr.heap.size wr A kb ko K := by
                have := BB.out.trans (HI.out.below.mono BB.out.size)
                exact (HK.out.move this).up this.size
              have HKW := Lib.hid hKW
              clear hKW
              go_wp2_with go_skip
              refine regMk30 (by kernel_rfl) (b17 := w4.heap.size) (kb := kb) (ko := ko) (c := c) (i := i) (A := A) (K := K) (t := kmapT A' g' c' (keysW (K.take i)) (X4 n)) (of_decide_eq_true (by kernel_rfl)) rfl rfl rfl hlt HI.out.box HKW.out HI.out.tin ?_
              intro θ W e8 hY
              simp only [seqTo, dstOf, Act.put, List.getElem?_toArray, List.getElem?_cons_zero, List.getElem?_cons_succ, Option.bind_some, List.setIfInBounds_toArray, List.set_cons_zero, List.set_cons_succ, List.drop_succ_cons, List.drop_zero]
              rw [e8]
              clear e8
              have H1 := Lib.hid (HI.out.step hY)
              have HK1 := Lib.hid ((HKW.out.move hY).up hY.size)
              clear hY
              cases hm : (getV (kmapT A' g' c' (keysW (K.take i)) (X4 n)) (kAt K i)).2
              · have HTW1 := Lib.hid (HTW.out.no hlt (fun hmem => by have := (getV_kmap A' g' c' (keysW (K.take i)) (X4 n) (kAt K i)).2 (((keysW_ok _).2 _).2 hmem); rw [hm] at this; cases this))
                clear hm HTW
                go_wp2_with go_skip
                refine regMk33 (by kernel_rfl) (b17 := w4.heap.size) (kb := kb) (ko := ko) (c := c) (i := i) (A := A) (K := K) (n := n) (t := kmapT A' g' c' (keysW (K.take i)) (X4 n)) (of_decide_eq_true (by kernel_rfl)) rfl rfl rfl rfl hlt H1.out.box HK1.out ?_
                intro θ3 W3 e0 e4 e6 hY
                simp only [seqTo, dstOf, Act.put, List.getElem?_toArray, List.getElem?_cons_zero, List.getElem?_cons_succ, Option.bind_some, List.setIfInBounds_toArray, List.set_cons_zero, List.set_cons_succ, List.drop_succ_cons, List.drop_zero]
                rw [e0, e4, e6]
                clear e0 e4 e6
                have H2 := Lib.hid (H1.out.step hY)
                clear hY H1 HK1
                have HLL : Hid ((keysW (K.take i)).length ≤ 1000) := Lib.hid (by have := keysW_len (K.take i); have := List.length_take_le i K; omega)
                have HAS := Lib.hid (keysW_sz HK.out.s i)
                have HKZ : Hid ((kAt K i).size ≤ 9223372036854775807) := Lib.hid (HK.out.s i)
                go_wp2_with (first | go_skip | (go_at_call 24; refine (rwith_go A' g' c' (keysW (K.take i)) (X4 n) (kAt K i) W3 HX.out H2.out.tin HLL.out HAS.out HKZ.out).mono ?_; rintro e w5 ⟨g2, c2, rfl, ht2, hg2, hb2⟩; have HN := Lib.hid (fun wz hgn hbn hon hsn => H2.out.put (W3 := wz) hlt hb2 hg2 ht2 hgn hbn hon hsn); have Q5 := Lib.hid ((H2.out.step hb2).box); clear ht2 hg2 hb2 H2) | ((with_reducible refine gate_op (op := .store 27 (.tmp 17) (.tmp 144)) rfl ?_); refine wpList_store_row rfl 27 (.tmp 17) (.tmp 144) rfl _ (VT.c (kmapT (some ⟨g2, 0, none⟩) g2 c2 (withL (kAt K i) (keysW (K.take i))) (X4 n))) rfl rfl 27 _ Q5.out (VT.val_info _) rfl (VT.c_one _) ?_; intro wn hbn hgn hon hsn; have H3 := Lib.hid (HN.out wn hgn hbn hon hsn); clear hbn hgn hon hsn HN Q5))
                rename World => w6
                have HK3 : Hid (KIn w6.heap.size w6 A kb ko K) := Lib.hid (by have := BB.out.trans (H3.out.below.mono BB.out.size); exact (HK.out.move this).up this.size)
                refine regMk34 (by kernel_rfl) (kb := kb) (ko := ko) (c := c) (i := i) (A := A) (K := K) (n := n) (sM := sM) (of_decide_eq_true (by kernel_rfl)) rfl rfl rfl rfl hlt HK3.out ?_
                intro θ4 W7 b e0 e8 hrow hY
                simp only [seqTo, dstOf, Act.put, List.getElem?_toArray, List.getElem?_cons_zero, List.getElem?_cons_succ, Option.bind_some, List.setIfInBounds_toArray, List.set_cons_zero, List.set_cons_succ, List.drop_succ_cons, List.drop_zero]
                rw [e0, e8]
                have H4 := Lib.hid (H3.out.step hY)
                clear e0 e8 hY H3 HK3
                ((with_reducible refine gate_op (op := .call { callee := .builtin .append, args := #[.tmp 145, .tmp 153], argTypes := #[25, 25] }) rfl ?_); refine wpList_append_own_at _ rfl (.tmp 145) (.tmp 153) 25 rfl (w4.heap.size + 1) 34 ip (.agg (pcK ⟨#[]⟩ .no)) 6 96 Tryz.underlying25 HIP.out IP.out.1 IP.out.2.1 IP.out.2.2 rfl (by decide) sM i _ rfl H4.out.own ⟨_, 0, none⟩ 1 1 (pcK (kAt K i) (X4 n)).toList rfl rfl (fun j u hu => by rw [add_at, Nat.zero_add, cell_of_row _ _ j _ _ _ hrow, ← Array.getElem?_toList]; exact hu) (all_mem (pcK_one _ _)) (by have := HL.out; unfold maxLen; omega) (by have := HL.out; omega) (by have := H4.out.lt; omega) ?_; intro v' w8 hown' hgrow _ hat; have H5 := Lib.hid (H4.out.app hlt hown' hgrow hat); clear hown' hgrow hat hrow H4)
                go_wp2_with go_skip
                go_roundw
                case rel => exact ⟨i + 1, h, _, _, _, v', by omega, by go_num, rfl, rfl, HTW1, H5⟩
                case measure => simp [intOf]; omega
              · have HTW1 := Lib.hid (TwI.yes (h := h) hlt (((keysW_ok _).2 _).1 ((getV_kmap A' g' c' (keysW (K.take i)) (X4 n) (kAt K i)).1 hm)))
                clear hm HTW
                go_wp2_with go_skip
                refine regMk33 (by kernel_rfl) (b17 := w4.heap.size) (kb := kb) (ko := ko) (c := c) (i := i) (A := A) (K := K) (n := n) (t := kmapT A' g' c' (keysW (K.take i)) (X4 n)) (of_decide_eq_true (by kernel_rfl)) rfl rfl rfl rfl hlt H1.out.box HK1.out ?_
                intro θ3 W3 e0 e4 e6 hY
                simp only [seqTo, dstOf, Act.put, List.getElem?_toArray, List.getElem?_cons_zero, List.getElem?_cons_succ, Option.bind_some, List.setIfInBounds_toArray, List.set_cons_zero, List.set_cons_succ, List.drop_succ_cons, List.drop_zero]
                rw [e0, e4, e6]
                clear e0 e4 e6
                have H2 := Lib.hid (H1.out.step hY)
                clear hY H1 HK1
                have HLL : Hid ((keysW (K.take i)).length ≤ 1000) := Lib.hid (by have := keysW_len (K.take i); have := List.length_take_le i K; omega)
                have HAS := Lib.hid (keysW_sz HK.out.s i)
                have HKZ : Hid ((kAt K i).size ≤ 9223372036854775807) := Lib.hid (HK.out.s i)
                go_wp2_with (first | go_skip | (go_at_call 24; refine (rwith_go A' g' c' (keysW (K.take i)) (X4 n) (kAt K i) W3 HX.out H2.out.tin HLL.out HAS.out HKZ.out).mono ?_; rintro e w5 ⟨g2, c2, rfl, ht2, hg2, hb2⟩; have HN := Lib.hid (fun wz hgn hbn hon hsn => H2.out.put (W3 := wz) hlt hb2 hg2 ht2 hgn hbn hon hsn); have Q5 := Lib.hid ((H2.out.step hb2).box); clear ht2 hg2 hb2 H2) | ((with_reducible refine gate_op (op := .store 27 (.tmp 17) (.tmp 144)) rfl ?_); refine wpList_store_row rfl 27 (.tmp 17) (.tmp 144) rfl _ (VT.c (kmapT (some ⟨g2, 0, none⟩) g2 c2 (withL (kAt K i) (keysW (K.take i))) (X4 n))) rfl rfl 27 _ Q5.out (VT.val_info _) rfl (VT.c_one _) ?_; intro wn hbn hgn hon hsn; have H3 := Lib.hid (HN.out wn hgn hbn hon hsn); clear hbn hgn hon hsn HN Q5))
                rename World => w6
                have HK3 : Hid (KIn w6.heap.size w6 A kb ko K) := Lib.hid (by have := BB.out.trans (H3.out.below.mono BB.out.size); exact (HK.out.move this).up this.size)
                refine regMk34 (by kernel_rfl) (kb := kb) (ko := ko) (c := c) (i := i) (A := A) (K := K) (n := n) (sM := sM) (of_decide_eq_true (by kernel_rfl)) rfl rfl rfl rfl hlt HK3.out ?_
                intro θ4 W7 b e0 e8 hrow hY
                simp only [seqTo, dstOf, Act.put, List.getElem?_toArray, List.getElem?_cons_zero, List.getElem?_cons_succ, Option.bind_some, List.setIfInBounds_toArray, List.set_cons_zero, List.set_cons_succ, List.drop_succ_cons, List.drop_zero]
                rw [e0, e8]
                have H4 := Lib.hid (H3.out.step hY)
                clear e0 e8 hY H3 HK3
                ((with_reducible refine gate_op (op := .call { callee := .builtin .append, args := #[.tmp 145, .tmp 153], argTypes := #[25, 25] }) rfl ?_); refine wpList_append_own_at _ rfl (.tmp 145) (.tmp 153) 25 rfl (w4.heap.size + 1) 34 ip (.agg (pcK ⟨#[]⟩ .no)) 6 96 Tryz.underlying25 HIP.out IP.out.1 IP.out.2.1 IP.out.2.2 rfl (by decide) sM i _ rfl H4.out.own ⟨_, 0, none⟩ 1 1 (pcK (kAt K i) (X4 n)).toList rfl rfl (fun j u hu => by rw [add_at, Nat.zero_add, cell_of_row _ _ j _ _ _ hrow, ← Array.getElem?_toList]; exact hu) (all_mem (pcK_one _ _)) (by have := HL.out; unfold maxLen; omega) (by have := HL.out; omega) (by have := H4.out.lt; omega) ?_; intro v' w8 hown' hgrow _ hat; have H5 := Lib.hid (H4.out.app hlt hown' hgrow hat); clear hown' hgrow hat hrow H4)
                go_wp2_with go_skip
                go_roundw
                case rel => exact ⟨i + 1, 5, _, _, _, v', by omega, by go_num, rfl, rfl, HTW1, H5⟩
                case measure => simp [intOf]; omega
            · obtain rfl : i = K.length := by omega
              have hltb : decide ((K.length : Int) < K.length) = false := by simp
              obtain ⟨A1, m1, c1, e1, hin⟩ := HI.out.rowIn HK.out.s (HX.out _ _)
              subst e1
              have HIN := Lib.hid hin
              clear hin
              go_wp2_with go_skip
              refine (vMap_keys K HL.out HK.out.s (X4 n) HX.out (VT.leaf_sm _ _ _) A1 m1 c1 wr HIN.out).mono ?_
              rintro e w5 ⟨v, got, rfl, hres, hb5⟩
              have H5 := Lib.hid (HI.out.step hb5)
              have Q17 : Hid (w5.heap[w4.heap.size]? = some (Obj.cells (kmapT A' g' c' (keysW K) (X4 n)).c 27)) := Lib.hid (by have := H5.out.box; rw [List.take_length] at this; exact this)
              have T17 : Hid (VT.In w5.heap.size w5 (kmapT A' g' c' (keysW K) (X4 n))) := Lib.hid (by have := H5.out.tin; rw [List.take_length] at this; exact this)
              have B5 := Lib.hid (BB.out.trans (H5.out.below.mono BB.out.size))
              have RES := Lib.hid hres
              have hS := Boxes.start w5
              have htw : (h = 0 ∧ K.Nodup) ∨ (h = 5 ∧ ¬ K.Nodup) := by
                have := HTW.out
                unfold TwI at this
                rw [List.take_length] at this
                exact this
              have HW2 := Lib.hid htw
              clear HI H5 hb5 hres HIN HTW htw hltb hlt hi
              go_wp2_with (first | go_skip | ((with_reducible refine gate_op (op := .alloc 27) rfl ?_); refine alloc_arm rfl 27 rfl (val_alloc _) ?_; intro wn hbn hgn; have hS1 := hS.new hbn hgn; (try simp only [List.nil_append, List.cons_append, List.set_cons_zero, List.set_cons_succ] at hS1); clear hS hbn hgn; have hS := hS1; clear hS1) | ((with_reducible refine gate_op (op := .store 27 (.tmp 22) (.tmp 158)) rfl ?_); refine wpList_store_row rfl 27 (.tmp 22) (.tmp 158) rfl _ (VT.c v) rfl rfl 27 _ (hS.at_ 0 rfl) (VT.val_info _) rfl (VT.c_one _) ?_; intro wn hbn hgn hon hsn; have hS1 := hS.put 0 rfl hon hbn hgn; (try simp only [List.nil_append, List.cons_append, List.set_cons_zero, List.set_cons_succ] at hS1); clear hS hbn hgn hon hsn; have hS := hS1; clear hS1))
              rcases HW2.out with ⟨rfl, hnd⟩ | ⟨rfl, hnd⟩
              · have HND := Lib.hid hnd
                clear hnd HW2
                go_loopw [24] (fun jv wx => ∃ j : Nat, j ≤ K.length ∧ jv = .int .i64 (j : Int) ∧ Hid (∀ q, q < j → letC (kAt K q) = 0) ∧ Boxes w5 wx [(w5.heap.size, Obj.cells v.c 27)]) (fun jv _ => K.length - (intOf jv).toNat)
                case atStart => exact ⟨0, Nat.zero_le _, rfl, fun q hq => absurd hq (Nat.not_lt_zero q), hS⟩
                case round =>
                  clear hS
                  rename World => wx
                  obtain ⟨j, hj, rfl, HJ, hS⟩ := hrel
                  by_cases hjl : j < K.length
                  · have hjb : decide ((j : Int) < K.length) = true := by simp; omega
                    have hBX := B5.out.trans (hS.below.mono B5.out.size)
                    have hmem : kAt K j ∈ K := by
                      unfold kAt
                      rw [List.getD_eq_getElem?_getD, List.getElem?_eq_getElem hjl]
                      exact List.getElem_mem _
                    have xa : ∀ W, (Instr.indexAt 39 (.slice A K.length c) (.int .i64 (j : Int))).run Tryz.prog W = .ok (.pointer (some ⟨kb, ko + j, none⟩)) W := HK.out.ix hjl c
                    have hkx := HK.out.move hBX
                    have ck := hkx.c j hjl
                    clear hkx
                    clear hBX
                    cases hlc : (letC (kAt K j) == 0)
                    · have cK := fun W => rstr_any (kAt K j) W
                      rw [hlc] at cK
                      have CK := Lib.hid cK
                      clear cK
                      have hg : got = 2 ∨ got = 3 := by
                        rcases RES.out with ⟨h1, _, _⟩ | ⟨_, _, h2, _⟩ | ⟨_, h1, _, _, _⟩
                        · exact absurd HND.out h1
                        · exact h2
                        · rw [h1 _ hmem] at hlc; cases hlc
                      clear hlc hmem
                      rcases hg with rfl | rfl <;> (go_wp2_with (first | go_skip | (go_at_call 26; (with_reducible (refine (CK.out _).mono ?_)); rintro e wn ⟨rfl, hbn⟩; have hS1 := hS.step hbn; clear hS hbn; have hS := hS1; clear hS1)); go_ret; exact ⟨rfl, B5.out.trans (hS.below.mono B5.out.size)⟩)
                    · have cK := fun W => rstr_any (kAt K j) W
                      rw [hlc] at cK
                      have CK := Lib.hid cK
                      clear cK
                      have HJ2 : Hid (∀ q, q < j + 1 → letC (kAt K q) = 0) := Lib.hid (fun q hq => by
                        by_cases e : q = j
                        · rw [e]; simpa using hlc
                        · exact HJ.out q (by omega))
                      clear hlc hmem
                      go_wp2_with (first | go_skip | (go_at_call 26; (with_reducible (refine (CK.out _).mono ?_)); rintro e wn ⟨rfl, hbn⟩; have hS1 := hS.step hbn; clear hS hbn; have hS := hS1; clear hS1))
                      go_roundw
                      case rel => exact ⟨j + 1, by omega, by go_num, HJ2, hS⟩
                      case measure => simp [intOf]; omega
                  · obtain rfl : j = K.length := by omega
                    have hjb : decide ((K.length : Int) < K.length) = false := by simp
                    obtain ⟨rfl, hvi, hvs, hlet⟩ : got = 0 ∧ VT.In w5.heap.size w5 v ∧ sameV v (kmapT none 0 0 (keysW K) (X4 n)) = true ∧ ∀ k ∈ K, letC k = 0 := by
                      rcases RES.out with ⟨h1, _, _⟩ | ⟨_, ⟨k, hk, hb⟩, _, _⟩ | ⟨_, h1, h2, h3, h4⟩
                      · exact absurd HND.out h1
                      · obtain ⟨q, hq, e⟩ := List.getElem_of_mem hk
                        have := HJ.out q hq
                        unfold kAt at this
                        rw [List.getD_eq_getElem?_getD, List.getElem?_eq_getElem hq] at this
                        have e2 : letC k = 0 := by rw [← e]; exact this
                        rw [e2] at hb
                        cases hb
                      · exact ⟨h2, h3, h4, h1⟩
                    have hsm : sameV v (kmapT A' g' c' (keysW K) (X4 n)) = true := sameV_trans hvs (kmap_same _ _ _ _ _)
                    have hgd : goodT v = true := (goodT_same hvs).trans (kmap_good (keysW K) n (Nat.le_trans (keysW_len K) HL.out) (keysW_ok K).1 (fun k hk => hlet k (((keysW_ok K).2 k).1 hk)))
                    have cS := fun W (hW : Below w5.heap.size w5 W) => rsame_v v (kmapT A' g' c' (keysW K) (X4 n)) W ((hvi.move hW).up hW.size) ((T17.out.move hW).up hW.size)
                    rw [hsm] at cS
                    have CS := Lib.hid cS
                    have cG := fun W (hW : Below w5.heap.size w5 W) => goodT_any v W (HV.out.step (B5.out.trans (hW.mono B5.out.size))) ((hvi.move hW).up hW.size)
                    rw [hgd] at cG
                    have CG := Lib.hid cG
                    clear cS cG
                    clear hvi hvs hlet hsm hgd
                    go_wp2_with (first | go_skip | ((with_reducible refine gate_op (op := .load 27 (.tmp 22)) rfl ?_); refine wpList_load_row' rfl 27 (.tmp 22) rfl _ rfl 27 _ (0, 0) _ (hS.at_ 0 rfl) Tryz.underlying27 rfl (VT.val_info v) ?_) | ((with_reducible refine gate_op (op := .load 27 (.tmp 17)) rfl ?_); refine wpList_load_row' rfl 27 (.tmp 17) rfl _ rfl 27 _ (0, 0) _ ((hS.below.block _ (Array.getElem?_eq_some_iff.1 Q17.out).1).trans Q17.out) Tryz.underlying27 rfl (VT.val_info (kmapT A' g' c' (keysW K) (X4 n))) ?_) | (go_at_call 20; (with_reducible (refine (CS.out _ hS.below).mono ?_)); rintro e wn ⟨rfl, hbn⟩; have hS1 := hS.step hbn; clear hS hbn; have hS := hS1; clear hS1) | (go_at_call 17; (with_reducible (refine (CG.out _ hS.below).mono ?_)); rintro e wn ⟨rfl, hbn⟩; have hS1 := hS.step hbn; clear hS hbn; have hS := hS1; clear hS1))
                    go_ret
                    exact ⟨rfl, B5.out.trans (hS.below.mono B5.out.size)⟩
              · have hpos : 0 < K.length := by
                  cases K with
                  | nil => exact absurd List.Pairwise.nil hnd
                  | cons a L => exact Nat.succ_pos _
                have hjb : decide ((0 : Int) < K.length) = true := by simp; omega
                obtain rfl : got = 5 := by
                  rcases RES.out with ⟨_, h1, _⟩ | ⟨h1, _, _, _⟩ | ⟨h1, _, _, _, _⟩
                  · exact h1
                  · exact absurd h1 hnd
                  · exact absurd h1 hnd
                clear hnd HW2
                go_loopw [24] (fun jv wx => jv = .int .i64 0 ∧ Boxes w5 wx [(w5.heap.size, Obj.cells v.c 27)]) (fun jv _ => 0)
                case atStart => exact ⟨rfl, hS⟩
                case round =>
                  clear hS
                  obtain ⟨rfl, hS⟩ := hrel
                  go_wp2_with go_skip
                  go_ret
                  exact ⟨rfl, B5.out.trans (hS.below.mono B5.out.size)⟩
set_option maxRecDepth 100000 in
set_option maxHeartbeats 1000000 in
theorem makes_long (hs : 5000 < s.size) : Calls Tryz.prog 4 #[.string s, .slice A K.length c, .int .i64 n] w fun e w' => e = .returned (.bool true) ∧ Below w.heap.size w w' := by
  have HV := Lib.hid hw
  have d1 : decide ((5000 : Int) < s.size) = true := by simp; omega
  have hS := Boxes.start w
  clear hw hK hn hs
  go_enter Tryz.func4, Tryz.ntmps4
  go_wp2_with (first | go_skip | (go_at_call 9; (with_reducible (refine (awake4_any _ (HV.out.step hS.below)).mono ?_)); rintro e wn ⟨rfl, hbn⟩; have hS1 := hS.step hbn; clear hS hbn; have hS := hS1; clear hS1))
  go_ret
  exact ⟨rfl, hS.below⟩
set_option maxRecDepth 100000 in
set_option maxHeartbeats 1000000 in
theorem makes_many (hs : ¬ 5000 < s.size) (hl : 20 < K.length) : Calls Tryz.prog 4 #[.string s, .slice A K.length c, .int .i64 n] w fun e w' => e = .returned (.bool true) ∧ Below w.heap.size w w' := by
  have HV := Lib.hid hw
  have d1 : decide ((5000 : Int) < s.size) = false := by simp; omega
  have d2 : decide ((20 : Int) < K.length) = true := by simp; omega
  have hS := Boxes.start w
  clear hw hK hn hs hl
  go_enter Tryz.func4, Tryz.ntmps4
  go_wp2_with (first | go_skip | (go_at_call 9; (with_reducible (refine (awake4_any _ (HV.out.step hS.below)).mono ?_)); rintro e wn ⟨rfl, hbn⟩; have hS1 := hS.step hbn; clear hS hbn; have hS := hS1; clear hS1))
  go_ret
  exact ⟨rfl, hS.below⟩
end
theorem valueMakes_walk (s : ByteArray) (A : Option Addr) (kb ko c : Nat) (K : List ByteArray) (n : Int) (w : World) (hw : Vars w) (_ : s.size ≤ 140737488351232) (hK : KIn w.heap.size w A kb ko K) (hn : -9223372036854775808 ≤ n ∧ n ≤ 9223372036854775807) : Calls Tryz.prog 4 #[.string s, .slice A K.length c, .int .i64 n] w fun e w' => e = .returned (.bool true) ∧ Below w.heap.size w w' := by
  by_cases h1 : 5000 < s.size
  · exact makes_long s A kb ko c K n w hw hK hn h1
  by_cases h2 : 20 < K.length
  · exact makes_many s A kb ko c K n w hw hK hn h1 h2
  exact makes_go s A kb ko c K n w hw hK hn (by omega) (by omega)
end Go.Proofs.YtcpmehppfccihaaGreatDoor
