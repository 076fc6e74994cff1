/-
  LwwPlays, walked: true. Condition: the library's variables as it lays them.
-/
import Derived.Test.YteplcnpmdjdlkaaGreatDoorLwwQJ
import Derived.Test.YteplcnpmdjdlkaaGreatDoorJ24
import Derived.Test.YteplcnpmdjdlkaaGreatDoorJ21
import Derived.Test.YteplcnpmdjdlkaaGreatDoorJ23
import Derived.Test.YteplcnpmdjdlkaaGreatDoorRKeysJ
namespace Go.Proofs.YteplcnpmdjdlkaaGreatDoor
open Go.RowKit Go.Sort
set_option linter.unusedVariables false
set_option linter.unusedSimpArgs false
set_option linter.unusedSectionVars false
noncomputable def pl17 : Array Oper := regOf Tryz.f4 17
/-- Has an operation of the row a word on this key that does not come ahead? -/
def lateB (x z : OT) : Bool := z.o.key.toList == x.o.key.toList && !afterB x.o z.o
def wantT (x : OT) (w : List OT) (m : Nat) : Bool := x.good && (w.take m).all (fun z => !lateB x z)
theorem wantT_all (x : OT) (w : List OT) : wantT x w w.length = wantB x w := by unfold wantT wantB lateB; rw [List.take_length]
theorem wantT_succ {x : OT} {w : List OT} {m : Nat} {z : OT} (hz : w[m]? = some z) : wantT x w (m + 1) = (wantT x w m && !lateB x z) := by
  unfold wantT
  rw [List.take_add_one, hz, List.all_append, Bool.and_assoc]
  simp
/-- What stands between two rounds of LwwPlays. -/
structure PlI (L : List WordV) (w W : World) (ba pa j : Nat) (la : Wd) (M : List OT) (A : Option Addr) (c : Nat) : Prop where
  ok : WdOk la
  ln : la.length ≤ j
  mn : M.length ≤ j
  pl : Plays M la
  row : RowW w W (.slice A M.length c) M
  ap : ∀ k, (Value.slice A M.length c).ownBlock = some k → k ≠ ba ∧ k ≠ pa
theorem ap_app {v v' : Value} {W : World} {ba pa : Nat} (h : ∀ k, v.ownBlock = some k → k ≠ ba ∧ k ≠ pa) (hat : v'.ownBlock = v.ownBlock ∨ v'.ownBlock = some W.heap.size) (h0 : ba < W.heap.size) (h1 : pa < W.heap.size) : ∀ k, v'.ownBlock = some k → k ≠ ba ∧ k ≠ pa := by
  intro k hk
  rcases hat with e | e
  · exact h k (e ▸ hk)
  · rw [e] at hk
    obtain rfl := Option.some.inj hk
    omega
theorem ap4 {v : Value} {ba pa bo bs : Nat} {o1 o2 o3 o4 : Obj} (h1 : ∀ k, v.ownBlock = some k → k ≠ ba ∧ k ≠ pa) (h2 : ∀ k, v.ownBlock = some k → k < bo) (h3 : ∀ k, v.ownBlock = some k → k < bs) : ∀ p ∈ [(ba, o1), (pa, o2), (bo, o3), (bs, o4)], v.ownBlock ≠ some p.1 := by
  intro p hp e
  have a1 := h1 _ e
  have a2 := h2 _ e
  have a3 := h3 _ e
  simp only [List.mem_cons, List.not_mem_nil, or_false] at hp
  rcases hp with rfl | rfl | rfl | rfl
  · exact a1.1 rfl
  · exact a1.2 rfl
  · exact Nat.lt_irrefl _ a2
  · exact Nat.lt_irrefl _ a3
theorem cells_rg {w : World} {b i : Nat} {cs : Array Value} (h : ∀ q v, cs[q]? = some v → w.cell? ⟨b, i + q, none⟩ = some v) : ∀ W, (∃ p : Regrown, W = Go.Sort.grow (redrawn w p.d) p.os) → ∀ q v, cs[q]? = some v → W.cell? ⟨b, i + q, none⟩ = some v := by
  rintro W ⟨p, rfl⟩ q v hv
  exact cell_regrown (h q v hv) p.d p.os
theorem PlI.mk' {L : List WordV} {w W : World} {ba pa j : Nat} {la : Wd} {M : List OT} {A : Option Addr} {c n : Nat} (hn : M.length = n) (h1 : WdOk la) (h2 : la.length ≤ j) (h3 : M.length ≤ j) (h4 : Plays M la) (h5 : RowW w W (.slice A n c) M) (h6 : ∀ k, (Value.slice A n c).ownBlock = some k → k ≠ ba ∧ k ≠ pa) : PlI L w W ba pa j la M A c := by
  subst hn
  exact ⟨h1, h2, h3, h4, h5, h6⟩
theorem word_says {M : List OT} {la : Wd} (hp : Plays M la) (k : ByteArray) (hM : M.length ≤ 1000000) (hk : KSz k) : ∃ (m : OT) (b : Bool), OT.Ok m ∧ (∀ A g c n w, OpsIn w.heap.size w A g 0 M → n = M.length → Calls Tryz.prog 16 #[.slice A n c, .agg #[Value.int .i64 0, Value.int .i64 0], .string k] w fun e w' => e = .returned (.tuple #[opv m.o, .bool b]) ∧ Below w.heap.size w w') ∧ ((b = false ∧ getW la k = none) ∨ (b = true ∧ ∃ y, getW la k = some y ∧ OT.Same y m)) := by
  refine ⟨(wdFold 0 0 k M).1, wordOn 0 0 M k, wdFold_ok 0 0 k M (fun z hz => (hp.ok z hz).1), fun A g c n w hO hn => by subst hn; exact rWord_any 0 0 k A g 0 c M w hO hM hk, ?_⟩
  rcases hp.get k with ⟨g0, g1⟩ | ⟨y, g0, g1, g2⟩
  · exact .inl ⟨g1, g0⟩
  · exact .inr ⟨g1, y, g0, g2⟩
theorem get_isn {l : Wd} {key : ByteArray} {p b : Nat} {w : World} (hy : getW l key = none) (hk : KSz key) (hl : WdOk l) (hp : w.heap[p]? = some (headO b)) (hb : w.heap[b]? = some (wordsO l)) :
    Calls Tryz.prog 11 #[.pointer (some ⟨p, 0, none⟩), .string key] w fun e w' => e = .returned (.tuple #[opv zeroO, .bool false]) ∧ Below w.heap.size w w' :=
  (lGet_any l key p b w hk hl hp hb).mono fun e w' ⟨z, he, hz, hm, hbel⟩ => by
    rw [hy] at he hm
    have hm : z = zOT := hm
    subst hm
    exact ⟨he, hbel⟩
theorem rkeys_says {M : List OT} {la : Wd} (hp : Plays M la) (hl : WdOk la) (hM : M.length ≤ 1000000) (A : Option Addr) (g c : Nat) (w : World) (hO : OpsIn w.heap.size w A g 0 M) : Calls Tryz.prog 18 #[.slice A M.length c, .agg #[Value.int .i64 0, Value.int .i64 0]] w fun e w' => ∃ A' g' c', e = .returned (.slice A' (keysW la).length c') ∧ SIn w' A' g' (keysW la) ∧ Below w.heap.size w w' := by
  rw [hp.keys hl.keys.nodup]
  exact rKeys_any 0 0 A g 0 c M w hO hM (fun z hz => (hp.ok z hz).1.key)
section
variable (A1 : Option Addr) (g1 o1 c1 : Nat) (L : List WordV) (w : World) (hw : Vars w) (hL : WsIn w.heap.size w A1 g1 o1 L)
include hw hL
set_option maxRecDepth 100000 in
set_option maxHeartbeats 4000000 in
theorem plays_go (h40 : L.length ≤ 40) : Calls Tryz.prog 4 #[.slice A1 L.length c1] w fun e w' => e = .returned (.bool true) ∧ Below w.heap.size w w' := by
  have HV := Lib.hid hw
  have HL := Lib.hid hL
  have H40 := Lib.hid h40
  have d1 : decide ((40 : Int) < L.length) = false := by simp; omega
  have hS := Boxes.start w
  clear hw hL
  go_enter Tryz.func4, Tryz.ntmps4
  go_wp2_with (first | go_skip | (go_at_call 7; (with_reducible (refine (awake22_any _ (HV.out.step hS.below)).mono ?_)); rintro e wn ⟨rfl, hbn⟩; have hS1 := hS.step hbn; clear hS hbn; have hS := hS1; clear hS1) | (go_at_call 8; (with_reducible (refine (lNew_any _).mono ?_)); rintro e wn ⟨pa, ba, rfl, hbx⟩; have hS1 := hS.app hbx; simp only [List.nil_append, List.cons_append] at hS1; clear hS hbx; have hS := hS1; clear hS1))
  rename World => w1
  go_loopw [4, 5] (fun wv iv wr => ∃ (j : Nat) (la : Wd) (M : List OT) (A : Option Addr) (c : Nat), j ≤ L.length ∧ wv = .slice A M.length c ∧ iv = .int .i64 (j : Int) ∧ PlI L w wr ba pa j la M A c ∧ Boxes w wr [(ba, wordsO la), (pa, headO ba)]) (fun _ iv _ => L.length - (intOf iv).toNat)
  case atStart => exact ⟨0, [], [], none, 0, Nat.zero_le _, rfl, rfl, ⟨WdOk.nil, Nat.le_refl _, Nat.le_refl _, Plays.nil, RowW.nil _ _, fun k h => by cases h⟩, hS⟩
  case round =>
    clear hS
    rename World => wr
    obtain ⟨j, la, M, A, c, hj, rfl, rfl, hP, hS⟩ := hrel
    have HP := Lib.hid hP
    clear hP
    obtain ⟨A', g, c', e0, hO, hcc⟩ := HP.out.row.slice
    injection e0 with ea _ ec
    subst ea ec
    have HO := Lib.hid hO
    have hmn := HP.out.mn
    clear hO
    by_cases hjl : j < L.length
    · have hjlb : decide ((j : Int) < L.length) = true := by simp; omega
      obtain ⟨x, hx⟩ : ∃ x, L[j]? = some x := ⟨_, List.getElem?_eq_getElem hjl⟩
      have HXx := Lib.hid hx
      have HXo := Lib.hid (HL.out.ok x (List.mem_of_getElem? hx))
      have ix := HL.out.ix hjl c1
      have cX := Lib.hid (fun q v hv => (HL.out.move hS.below).c j x hx q v hv)
      have k2 : wr.cell? ⟨g1, o1 + j * 5 + 2, none⟩ = some (.string x.key) := cX.out 2 _ rfl
      have hks : x.key.size ≤ 9223372036854775807 := HXo.out.key
      have hksz : KSz x.key := hks
      clear hx
      by_cases h100 : 100 < x.key.size
      · have h100b : decide ((100 : Int) < x.key.size) = true := by simp; omega
        go_wp2_with go_skip
        go_ret
        exact ⟨rfl, hS.below⟩
      · have h100b : decide ((100 : Int) < x.key.size) = false := by simp; omega
        have HSr := Lib.hid hS
        clear hS
        have hS := Boxes.start wr
        have HX := Lib.hid (WordV.op_ok HXo.out)
        have hxs := HX.out.seen
        go_wp2_with (first | ((with_reducible refine gate_op (op := .load 39 (.tmp 35)) rfl ?_); refine load_cells rfl 39 (.tmp 35) rfl _ _ rfl x.c _ cX.out Tryz.underlying39 rfl (word_info x) ?_) | go_skip | (go_at_call 10; (with_reducible (refine (wOp_any x _).mono ?_)); rintro e wn ⟨rfl, hbn⟩; have hS1 := hS.step hbn; clear hS hbn; have hS := hS1; clear hS1) | ((with_reducible refine gate_op (op := .alloc 36) rfl ?_); refine alloc_arm rfl 36 rfl (op_alloc _) ?_; intro wn hbn hgn; have hS1 := hS.new hbn hgn; (try simp only [List.nil_append, List.cons_append, List.set_cons_zero, List.set_cons_succ] at hS1); clear hS hbn hgn; have hS := hS1; clear hS1) | ((with_reducible refine gate_op (op := .store 36 (.tmp 6) (.tmp 37)) rfl ?_); refine wpList_store_row rfl 36 (.tmp 6) (.tmp 37) rfl _ x.op.o.c rfl rfl 36 _ (hS.at_ 0 rfl) (op_info _ hxs) ((OpV.size (o := zeroO) rfl).trans (OpV.size (o := x.op.o) hxs).symm) (ot_one HX.out.vc) ?_; intro wn hbn hgn hon hsn; have hS1 := hS.put 0 rfl hon hbn hgn; (try simp only [List.nil_append, List.cons_append, List.set_cons_zero, List.set_cons_succ] at hS1); clear hS hbn hgn hon hsn; have hS := hS1; clear hS1) | ((with_reducible refine gate_op (op := .load 36 (.tmp 6)) rfl ?_); refine wpList_load_row' rfl 36 (.tmp 6) rfl _ rfl 36 _ (0, 0) _ (hS.at_ 0 rfl) Tryz.underlying36 rfl (op_info _ hxs) ?_) | (go_at_call 14; (with_reducible (refine (rop_word x HXo.out _).mono ?_)); rintro e wn ⟨rfl, hbn⟩; have hS1 := hS.step hbn; clear hS hbn; have hS := hS1; clear hS1))
        rename World => wk
        rename_i wo _ _ _ _
        clear k2
        go_loopw [7, 8] (fun wv kv wq => ∃ m : Nat, m ≤ M.length ∧ wv = .bool (wantT x.op M m) ∧ kv = .int .i64 (m : Int) ∧ Boxes wr wq [(wo.heap.size, Obj.cells x.op.o.c 36)]) (fun _ kv _ => M.length - (intOf kv).toNat)
        case atStart => exact ⟨0, Nat.zero_le _, by unfold wantT; simp, rfl, hS⟩
        case round =>
          clear hS
          rename World => wq
          obtain ⟨m, hm, rfl, rfl, hS⟩ := hrel
          by_cases hml : m < M.length
          · have hmlb : decide ((m : Int) < M.length) = true := by simp; omega
            obtain ⟨z, hz⟩ : ∃ z, M[m]? = some z := ⟨_, List.getElem?_eq_getElem hml⟩
            have HWS := Lib.hid (wantT_succ (x := x.op) hz)
            have HZo := Lib.hid (HO.out.ok z (List.mem_of_getElem? hz))
            have hzs := HZo.out.seen
            have iz := HO.out.ix hml c
            have cZ := Lib.hid (fun q v hv => (HO.out.move hS.below).c m z hz q v hv)
            have k70 := cell_regrown (cZ.out 70 _ (OpV.g70 hzs))
            have q70 := cell_regrown ((cell_of_row _ _ 70 _ _ _ (hS.at_ 0 rfl)).trans (OpV.g70 hxs))
            have r6 := hS.at_ 0 rfl
            simp only [Nat.zero_add] at iz k70 cZ
            have cZq := Lib.hid (cells_rg cZ.out)
            clear hz
            cases hk : (z.o.key.toList == x.op.o.key.toList)
            · go_wp2_with go_skip
              refine wp_region_quiet_below (by kernel_rfl) (by kernel_rfl) ?_
              repeat (first | go_big_quiet_skip | (quiet_step (fail)))
              refine wpQuiet_nil ?_; rintro wz ⟨⟨dq, osq⟩, rfl⟩; have hbn := below_regrown wq dq osq; generalize Go.Sort.grow (redrawn wq dq) osq = wz at *
              have hS1 := hS.step hbn; clear hS hbn; have hS := hS1; clear hS1
              clear q70 k70 r6
              go_wp2_with go_skip
              go_roundw
              case rel => exact ⟨m + 1, by omega, by rw [HWS.out]; unfold lateB; rw [hk]; simp, by go_num, hS⟩
              case measure => first | (simp [intOf]; done) | (simp [intOf]; omega)
            · cases ha : afterB x.op.o z.o
              · go_wp2_with go_skip
                refine wp_region_one pl17 (by kernel_rfl) 14 (by kernel_rfl) (by kernel_rfl) (by kernel_rfl) (by decide) (by kernel_rfl) (by kernel_rfl) (fun v _ => v = .bool (afterB x.op.o z.o)) ?_
                simp only [List.take_succ_cons, List.take_zero]
                repeat (first | go_big_quiet_skip | (refine BigFrame.wpQuiet_want rfl (fun K hK => ?_); refine quiet_load_row 36 (.tmp 6) rfl _ rfl 36 _ (0, 0) _ (row_regrown r6) Tryz.underlying36 rfl (op_info _ hxs) ?_; refine hK _ ?_; clear hK K) | (refine BigFrame.wpQuiet_want rfl (fun K hK => ?_); refine quiet_load_cells 36 (.tmp 58) rfl g (m * 79) rfl z.o.c _ cZq.out Tryz.underlying36 rfl (op_info _ hzs) ?_; refine hK _ ?_; clear hK K) | (quiet_step (fail)))
                refine wpQuiet_nil ?_
                intro o ho
                simp only [List.getElem?_toArray, List.getElem?_cons_succ, List.getElem?_cons_zero, Option.some.injEq] at ho
                subst ho
                refine ⟨rfl, ?_, ?_⟩
                · intro W hW
                  exact gives_call_ex #[.tmp 55, .tmp 59] #[36, 36] rfl (f := 15) Tryz.func15 (by kernel_rfl) rfl #[opv x.op.o, opv z.o] (two_args rfl rfl) ((rAfter_any x.op.o z.o W).mono fun e w' ⟨he, hb⟩ => ⟨_, he, hW.trans (hb.mono hW.size), rfl⟩)
                intro v W hbn hv
                subst hv
                have hS1 := hS.step hbn; clear hS hbn; have hS := hS1; clear hS1
                simp only [List.drop_succ_cons, List.drop_zero, Act.put, List.setIfInBounds_toArray, List.set_cons_zero, List.set_cons_succ]
                clear q70 k70 r6
                go_wp2_with go_skip
                go_roundw
                case rel => exact ⟨m + 1, by omega, by rw [HWS.out]; unfold lateB; rw [hk, ha]; simp, by go_num, hS⟩
                case measure => first | (simp [intOf]; done) | (simp [intOf]; omega)
              · go_wp2_with go_skip
                refine wp_region_one pl17 (by kernel_rfl) 14 (by kernel_rfl) (by kernel_rfl) (by kernel_rfl) (by decide) (by kernel_rfl) (by kernel_rfl) (fun v _ => v = .bool (afterB x.op.o z.o)) ?_
                simp only [List.take_succ_cons, List.take_zero]
                repeat (first | go_big_quiet_skip | (refine BigFrame.wpQuiet_want rfl (fun K hK => ?_); refine quiet_load_row 36 (.tmp 6) rfl _ rfl 36 _ (0, 0) _ (row_regrown r6) Tryz.underlying36 rfl (op_info _ hxs) ?_; refine hK _ ?_; clear hK K) | (refine BigFrame.wpQuiet_want rfl (fun K hK => ?_); refine quiet_load_cells 36 (.tmp 58) rfl g (m * 79) rfl z.o.c _ cZq.out Tryz.underlying36 rfl (op_info _ hzs) ?_; refine hK _ ?_; clear hK K) | (quiet_step (fail)))
                refine wpQuiet_nil ?_
                intro o ho
                simp only [List.getElem?_toArray, List.getElem?_cons_succ, List.getElem?_cons_zero, Option.some.injEq] at ho
                subst ho
                refine ⟨rfl, ?_, ?_⟩
                · intro W hW
                  exact gives_call_ex #[.tmp 55, .tmp 59] #[36, 36] rfl (f := 15) Tryz.func15 (by kernel_rfl) rfl #[opv x.op.o, opv z.o] (two_args rfl rfl) ((rAfter_any x.op.o z.o W).mono fun e w' ⟨he, hb⟩ => ⟨_, he, hW.trans (hb.mono hW.size), rfl⟩)
                intro v W hbn hv
                subst hv
                have hS1 := hS.step hbn; clear hS hbn; have hS := hS1; clear hS1
                simp only [List.drop_succ_cons, List.drop_zero, Act.put, List.setIfInBounds_toArray, List.set_cons_zero, List.set_cons_succ]
                clear q70 k70 r6
                go_wp2_with go_skip
                go_roundw
                case rel => exact ⟨m + 1, by omega, by rw [HWS.out]; unfold lateB; rw [hk, ha]; simp, by go_num, hS⟩
                case measure => first | (simp [intOf]; done) | (simp [intOf]; omega)
          · have hmlb : decide ((m : Int) < M.length) = false := by simp; omega
            obtain rfl : m = M.length := by omega
            rw [wantT_all]
            cases hq : wantB x.op M
            · go_upto_region 23 with (first | ((with_reducible refine gate_op (op := .load 36 (.tmp 6)) rfl ?_); refine wpList_load_row' rfl 36 (.tmp 6) rfl _ rfl 36 _ (0, 0) _ (hS.at_ 0 rfl) Tryz.underlying36 rfl (op_info _ hxs) ?_) | (go_at_call 9; have hB1 := HSr.out.app hS; simp only [List.cons_append, List.nil_append] at hB1; have q0 := hB1.at_ 0 rfl; have q1 := hB1.at_ 1 rfl; (with_reducible (refine (apply_word x la pa ba _ (HV.out.step hB1.below) HXo.out HP.out.ok q1 q0).mono ?_)); clear q0 q1; rintro e wn ⟨r, l2, rfl, hz, hgn, hbut⟩; have HZ := Lib.hid hz; have hwo := Lib.hid (hS.rows 0 _ rfl).1; obtain ⟨hr, hpl⟩ := HP.out.pl.step (word_is x HXo.out) hz.1; rw [hq] at hr hpl; subst hr; have hR := (HP.out.row.move hS.below).keep (fun k hk hlt => hbut.block k hlt (HP.out.ap k hk).1); have hS1 := hB1.turn 0 rfl hbut hgn; simp only [List.set_cons_zero, List.set_cons_succ] at hS1; clear hS hB1 hgn hbut hz; have hS := hS1; clear hS1) | go_skip)
              rename World => wt
              have hpl : Plays M l2 := hpl
              have hap := HP.out.ap
              obtain ⟨A9, g9, c9, e9, hO9, _⟩ := hR.slice
              injection e9 with ea9 _ ec9
              subst ea9 ec9
              have HPl := Lib.hid hpl
              have HRt := Lib.hid hR
              have HSt := Lib.hid hS
              clear hpl hR hS
              obtain ⟨mw, bw, hmo, hwd, hgw⟩ := word_says HPl.out x.key (by first | omega | (simp; omega)) hks
              have HWD := Lib.hid hwd
              have HMO := Lib.hid hmo
              have hms := hmo.seen
              have HGW := Lib.hid hgw
              clear hwd hmo hgw
              have hS := Boxes.start wt
              have HOt := Lib.hid hO9
              rcases HGW.out with ⟨rfl, hgn⟩ | ⟨rfl, yw, hgn, hsm⟩
              · have HGN := Lib.hid hgn
                clear hgn
                go_wp2_with (first | ((with_reducible refine gate_op (op := .load 9 (.tmp 78)) rfl ?_); refine load_one rfl 9 (.tmp 78) rfl g1 (o1 + j * 5 + 2) rfl (.string x.key) _ ((HL.out.move (HSt.out.below.trans (hS.below.mono HSt.out.below.size))).c j x HXx.out 2 _ rfl) Tryz.underlying9 rfl ?_) | ((with_reducible refine gate_op (op := .load 9 (.tmp 89)) rfl ?_); refine load_one rfl 9 (.tmp 89) rfl g1 (o1 + j * 5 + 2) rfl (.string x.key) _ ((HL.out.move (HSt.out.below.trans (hS.below.mono HSt.out.below.size))).c j x HXx.out 2 _ rfl) Tryz.underlying9 rfl ?_) | go_skip | (go_at_call 11; have q1 := (hS.below.block _ (HSt.out.lt 1 rfl)).trans (HSt.out.at_ 1 rfl); have q0 := (hS.below.block _ (HSt.out.lt 0 rfl)).trans (HSt.out.at_ 0 rfl); (with_reducible (refine (get_isn HGN.out hksz HZ.out.2.1 q1 q0).mono ?_)); clear q0 q1; rintro e wn ⟨rfl, hbn⟩; have hS1 := hS.step hbn; clear hS hbn; have hS := hS1; clear hS1) | ((with_reducible refine gate_op (op := .alloc 36) rfl ?_); refine alloc_arm rfl 36 rfl (op_alloc _) ?_; intro wn hbn hgn; have hS1 := hS.new hbn hgn; (try simp only [List.nil_append, List.cons_append, List.set_cons_zero, List.set_cons_succ] at hS1); clear hS hbn hgn; have hS := hS1; clear hS1) | ((with_reducible refine gate_op (op := .store 36 (.tmp 9) (.tmp 81)) rfl ?_); refine wpList_store_row rfl 36 (.tmp 9) (.tmp 81) rfl _ zeroO.c rfl rfl 36 _ (hS.at_ 0 rfl) (op_info _ rfl) rfl (op_one rfl rfl) ?_; intro wn hbn hgn hon hsn; have hS1 := hS.put 0 rfl hon hbn hgn; (try simp only [List.nil_append, List.cons_append, List.set_cons_zero, List.set_cons_succ] at hS1); clear hS hbn hgn hon hsn; have hS := hS1; clear hS1) | (go_at_call 16; (with_reducible (refine (HWD.out _ _ _ _ _ ((HOt.out.move hS.below).up hS.below.size) (by simp)).mono ?_)); rintro e wn ⟨rfl, hbn⟩; have hS1 := hS.step hbn; clear hS hbn; have hS := hS1; clear hS1) | ((with_reducible refine gate_op (op := .store 36 (.tmp 11) (.tmp 92)) rfl ?_); refine wpList_store_row rfl 36 (.tmp 11) (.tmp 92) rfl _ mw.o.c rfl rfl 36 _ (hS.at_ 1 rfl) (op_info _ hms) ((OpV.size (o := zeroO) rfl).trans (OpV.size (o := mw.o) hms).symm) (ot_one HMO.out.vc) ?_; intro wn hbn hgn hon hsn; have hS1 := hS.put 1 rfl hon hbn hgn; (try simp only [List.nil_append, List.cons_append, List.set_cons_zero, List.set_cons_succ] at hS1); clear hS hbn hgn hon hsn; have hS := hS1; clear hS1))
                go_roundw
                case rel => exact ⟨j + 1, l2, M, A, c, by omega, by first | rfl | (simp; done), by go_num, PlI.mk' (by first | rfl | (simp; done)) HZ.out.2.1 (by have := HZ.out.2.2; have := HP.out.ln; omega) (by have := HP.out.mn; first | omega | (simp; omega)) HPl.out (HRt.out.move hS.below) hap, (HSt.out.step hS.below).drop (n := 2)⟩
                case measure => first | (simp [intOf]; done) | (simp [intOf]; omega)
              · have HGN := Lib.hid hgn
                have HSM := Lib.hid hsm
                clear hgn hsm
                go_wp2_with (first | ((with_reducible refine gate_op (op := .load 9 (.tmp 78)) rfl ?_); refine load_one rfl 9 (.tmp 78) rfl g1 (o1 + j * 5 + 2) rfl (.string x.key) _ ((HL.out.move (HSt.out.below.trans (hS.below.mono HSt.out.below.size))).c j x HXx.out 2 _ rfl) Tryz.underlying9 rfl ?_) | ((with_reducible refine gate_op (op := .load 9 (.tmp 89)) rfl ?_); refine load_one rfl 9 (.tmp 89) rfl g1 (o1 + j * 5 + 2) rfl (.string x.key) _ ((HL.out.move (HSt.out.below.trans (hS.below.mono HSt.out.below.size))).c j x HXx.out 2 _ rfl) Tryz.underlying9 rfl ?_) | go_skip | (go_at_call 11; have q1 := (hS.below.block _ (HSt.out.lt 1 rfl)).trans (HSt.out.at_ 1 rfl); have q0 := (hS.below.block _ (HSt.out.lt 0 rfl)).trans (HSt.out.at_ 0 rfl); (with_reducible (refine (get_is HGN.out hksz HZ.out.2.1 q1 q0).mono ?_)); clear q0 q1; rintro e wn ⟨zg, rfl, hzo, hzs, hbn⟩; have hS1 := hS.step hbn; clear hS hbn; have hS := hS1; clear hS1; have HZG := Lib.hid (And.intro hzo hzs); have hgs := hzo.seen; clear hzo hzs) | ((with_reducible refine gate_op (op := .alloc 36) rfl ?_); refine alloc_arm rfl 36 rfl (op_alloc _) ?_; intro wn hbn hgn; have hS1 := hS.new hbn hgn; (try simp only [List.nil_append, List.cons_append, List.set_cons_zero, List.set_cons_succ] at hS1); clear hS hbn hgn; have hS := hS1; clear hS1) | ((with_reducible refine gate_op (op := .store 36 (.tmp 9) (.tmp 81)) rfl ?_); refine wpList_store_row rfl 36 (.tmp 9) (.tmp 81) rfl _ zg.o.c rfl rfl 36 _ (hS.at_ 0 rfl) (op_info _ hgs) ((OpV.size (o := zeroO) rfl).trans (OpV.size (o := zg.o) hgs).symm) (ot_one HZG.out.1.vc) ?_; intro wn hbn hgn hon hsn; have hS1 := hS.put 0 rfl hon hbn hgn; (try simp only [List.nil_append, List.cons_append, List.set_cons_zero, List.set_cons_succ] at hS1); clear hS hbn hgn hon hsn; have hS := hS1; clear hS1) | (go_at_call 16; (with_reducible (refine (HWD.out _ _ _ _ _ ((HOt.out.move hS.below).up hS.below.size) (by simp)).mono ?_)); rintro e wn ⟨rfl, hbn⟩; have hS1 := hS.step hbn; clear hS hbn; have hS := hS1; clear hS1) | ((with_reducible refine gate_op (op := .store 36 (.tmp 11) (.tmp 92)) rfl ?_); refine wpList_store_row rfl 36 (.tmp 11) (.tmp 92) rfl _ mw.o.c rfl rfl 36 _ (hS.at_ 1 rfl) (op_info _ hms) ((OpV.size (o := zeroO) rfl).trans (OpV.size (o := mw.o) hms).symm) (ot_one HMO.out.vc) ?_; intro wn hbn hgn hon hsn; have hS1 := hS.put 1 rfl hon hbn hgn; (try simp only [List.nil_append, List.cons_append, List.set_cons_zero, List.set_cons_succ] at hS1); clear hS hbn hgn hon hsn; have hS := hS1; clear hS1) | ((with_reducible refine gate_op (op := .load 36 (.tmp 9)) rfl ?_); refine wpList_load_row' rfl 36 (.tmp 9) rfl _ rfl 36 _ (0, 0) _ (hS.at_ 0 rfl) Tryz.underlying36 rfl (op_info _ hgs) ?_) | ((with_reducible refine gate_op (op := .load 36 (.tmp 11)) rfl ?_); refine wpList_load_row' rfl 36 (.tmp 11) rfl _ rfl 36 _ (0, 0) _ (hS.at_ 1 rfl) Tryz.underlying36 rfl (op_info _ hms) ?_) | (go_at_call 17; (with_reducible (refine (same_is HZG.out.1 HMO.out (HZG.out.2.symm.trans HSM.out) _).mono ?_)); rintro e wn ⟨rfl, hbn⟩; have hS1 := hS.step hbn; clear hS hbn; have hS := hS1; clear hS1))
                go_roundw
                case rel => exact ⟨j + 1, l2, M, A, c, by omega, by first | rfl | (simp; done), by go_num, PlI.mk' (by first | rfl | (simp; done)) HZ.out.2.1 (by have := HZ.out.2.2; have := HP.out.ln; omega) (by have := HP.out.mn; first | omega | (simp; omega)) HPl.out (HRt.out.move hS.below) hap, (HSt.out.step hS.below).drop (n := 2)⟩
                case measure => first | (simp [intOf]; done) | (simp [intOf]; omega)
            · go_upto_region 22 with (first | ((with_reducible refine gate_op (op := .load 36 (.tmp 6)) rfl ?_); refine wpList_load_row' rfl 36 (.tmp 6) rfl _ rfl 36 _ (0, 0) _ (hS.at_ 0 rfl) Tryz.underlying36 rfl (op_info _ hxs) ?_) | (go_at_call 9; have hB1 := HSr.out.app hS; simp only [List.cons_append, List.nil_append] at hB1; have q0 := hB1.at_ 0 rfl; have q1 := hB1.at_ 1 rfl; (with_reducible (refine (apply_word x la pa ba _ (HV.out.step hB1.below) HXo.out HP.out.ok q1 q0).mono ?_)); clear q0 q1; rintro e wn ⟨r, l2, rfl, hz, hgn, hbut⟩; have HZ := Lib.hid hz; have hwo := Lib.hid (hS.rows 0 _ rfl).1; obtain ⟨hr, hpl⟩ := HP.out.pl.step (word_is x HXo.out) hz.1; rw [hq] at hr hpl; subst hr; have hR := (HP.out.row.move hS.below).keep (fun k hk hlt => hbut.block k hlt (HP.out.ap k hk).1); have hS1 := hB1.turn 0 rfl hbut hgn; simp only [List.set_cons_zero, List.set_cons_succ] at hS1; clear hS hB1 hgn hbut hz; have hS := hS1; clear hS1) | go_skip)
              rename World => wy
              have hpl : Plays (M ++ [x.op]) l2 := hpl
              have hap := HP.out.ap
              have b1 := Lib.hid (build_op1 x.op.o.c (OpV.size hxs))
              have hlen : M.length + 1 ≤ 1000000 := by omega
              have hlo := Lib.hid (fun k (hk : (Value.slice A M.length c).ownBlock = some k) => Nat.lt_of_lt_of_le (owns_base HP.out.row.own hk).2 hwo.out)
              have hly := Lib.hid (fun k (hk : (Value.slice A M.length c).ownBlock = some k) => (owns_base hR.own hk).2)
              go_upto_region 23 with (first | ((with_reducible refine gate_op (op := .load 36 (.tmp 6)) rfl ?_); refine wpList_load_row' rfl 36 (.tmp 6) rfl _ rfl 36 _ (0, 0) _ (hS.at_ 2 rfl) Tryz.underlying36 rfl (op_info _ hxs) ?_) | ((with_reducible refine gate_op (op := .buildSlice 46 1 #[(0, .tmp 70)]) rfl ?_); refine slice_arm rfl 46 1 #[(0, .tmp 70)] rfl #[(0, .agg x.op.o.c)] (by simp only [List.map_toArray, List.map_cons, List.map_nil]; rfl) _ _ (b1.out _) ?_; intro wn hbn hgn; have hS1 := hS.new hbn hgn; have hR1 := hR.move hbn; simp only [List.cons_append, List.nil_append] at hS1; have hgx := Lib.hid hgn; clear hS hR hbn hgn; have hS := hS1; have hR := hR1; clear hS1 hR1) | ((with_reducible refine gate_op (op := .call { callee := .builtin .append, args := #[.tmp 69, .tmp 71], argTypes := #[46, 46] }) rfl ?_); refine apop_arm rfl (.tmp 69) (.tmp 71) rfl x.op _ rfl rfl hR HX.out hgx.out hlen hS.below.size ?_; intro A8 g8 c8 w8 hR8 hgr hat hO8; have hap8 := Lib.hid (ap_app hap hat (hS.lt 0 rfl) (hS.lt 1 rfl)); have hS1 := hS.grown hgr (ap4 hap hlo.out hly.out) (fun k hk => (owns_base hR.own hk).1); clear hS hR; have hS := hS1.drop (n := 3); simp only [List.take_succ_cons, List.take_zero] at hS; have hR := hR8; have hO9 := hO8; clear hS1 hR8 hgr hat hO8) | go_skip)
              rename World => wt
              clear hap
              have HPl := Lib.hid hpl
              have HRt := Lib.hid hR
              have HSt := Lib.hid hS
              clear hpl hR hS
              obtain ⟨mw, bw, hmo, hwd, hgw⟩ := word_says HPl.out x.key (by first | omega | (simp; omega)) hks
              have HWD := Lib.hid hwd
              have HMO := Lib.hid hmo
              have hms := hmo.seen
              have HGW := Lib.hid hgw
              clear hwd hmo hgw
              have hS := Boxes.start wt
              have HOt := Lib.hid hO9
              rcases HGW.out with ⟨rfl, hgn⟩ | ⟨rfl, yw, hgn, hsm⟩
              · have HGN := Lib.hid hgn
                clear hgn
                go_wp2_with (first | ((with_reducible refine gate_op (op := .load 9 (.tmp 78)) rfl ?_); refine load_one rfl 9 (.tmp 78) rfl g1 (o1 + j * 5 + 2) rfl (.string x.key) _ ((HL.out.move (HSt.out.below.trans (hS.below.mono HSt.out.below.size))).c j x HXx.out 2 _ rfl) Tryz.underlying9 rfl ?_) | ((with_reducible refine gate_op (op := .load 9 (.tmp 89)) rfl ?_); refine load_one rfl 9 (.tmp 89) rfl g1 (o1 + j * 5 + 2) rfl (.string x.key) _ ((HL.out.move (HSt.out.below.trans (hS.below.mono HSt.out.below.size))).c j x HXx.out 2 _ rfl) Tryz.underlying9 rfl ?_) | go_skip | (go_at_call 11; have q1 := (hS.below.block _ (HSt.out.lt 1 rfl)).trans (HSt.out.at_ 1 rfl); have q0 := (hS.below.block _ (HSt.out.lt 0 rfl)).trans (HSt.out.at_ 0 rfl); (with_reducible (refine (get_isn HGN.out hksz HZ.out.2.1 q1 q0).mono ?_)); clear q0 q1; rintro e wn ⟨rfl, hbn⟩; have hS1 := hS.step hbn; clear hS hbn; have hS := hS1; clear hS1) | ((with_reducible refine gate_op (op := .alloc 36) rfl ?_); refine alloc_arm rfl 36 rfl (op_alloc _) ?_; intro wn hbn hgn; have hS1 := hS.new hbn hgn; (try simp only [List.nil_append, List.cons_append, List.set_cons_zero, List.set_cons_succ] at hS1); clear hS hbn hgn; have hS := hS1; clear hS1) | ((with_reducible refine gate_op (op := .store 36 (.tmp 9) (.tmp 81)) rfl ?_); refine wpList_store_row rfl 36 (.tmp 9) (.tmp 81) rfl _ zeroO.c rfl rfl 36 _ (hS.at_ 0 rfl) (op_info _ rfl) rfl (op_one rfl rfl) ?_; intro wn hbn hgn hon hsn; have hS1 := hS.put 0 rfl hon hbn hgn; (try simp only [List.nil_append, List.cons_append, List.set_cons_zero, List.set_cons_succ] at hS1); clear hS hbn hgn hon hsn; have hS := hS1; clear hS1) | (go_at_call 16; (with_reducible (refine (HWD.out _ _ _ _ _ ((HOt.out.move hS.below).up hS.below.size) (by simp)).mono ?_)); rintro e wn ⟨rfl, hbn⟩; have hS1 := hS.step hbn; clear hS hbn; have hS := hS1; clear hS1) | ((with_reducible refine gate_op (op := .store 36 (.tmp 11) (.tmp 92)) rfl ?_); refine wpList_store_row rfl 36 (.tmp 11) (.tmp 92) rfl _ mw.o.c rfl rfl 36 _ (hS.at_ 1 rfl) (op_info _ hms) ((OpV.size (o := zeroO) rfl).trans (OpV.size (o := mw.o) hms).symm) (ot_one HMO.out.vc) ?_; intro wn hbn hgn hon hsn; have hS1 := hS.put 1 rfl hon hbn hgn; (try simp only [List.nil_append, List.cons_append, List.set_cons_zero, List.set_cons_succ] at hS1); clear hS hbn hgn hon hsn; have hS := hS1; clear hS1))
                go_roundw
                case rel => exact ⟨j + 1, l2, (M ++ [x.op]), A8, c8, by omega, by first | rfl | (simp; done), by go_num, PlI.mk' (by first | rfl | (simp; done)) HZ.out.2.1 (by have := HZ.out.2.2; have := HP.out.ln; omega) (by have := HP.out.mn; first | omega | (simp; omega)) HPl.out (HRt.out.move hS.below) hap8.out, (HSt.out.step hS.below).drop (n := 2)⟩
                case measure => first | (simp [intOf]; done) | (simp [intOf]; omega)
              · have HGN := Lib.hid hgn
                have HSM := Lib.hid hsm
                clear hgn hsm
                go_wp2_with (first | ((with_reducible refine gate_op (op := .load 9 (.tmp 78)) rfl ?_); refine load_one rfl 9 (.tmp 78) rfl g1 (o1 + j * 5 + 2) rfl (.string x.key) _ ((HL.out.move (HSt.out.below.trans (hS.below.mono HSt.out.below.size))).c j x HXx.out 2 _ rfl) Tryz.underlying9 rfl ?_) | ((with_reducible refine gate_op (op := .load 9 (.tmp 89)) rfl ?_); refine load_one rfl 9 (.tmp 89) rfl g1 (o1 + j * 5 + 2) rfl (.string x.key) _ ((HL.out.move (HSt.out.below.trans (hS.below.mono HSt.out.below.size))).c j x HXx.out 2 _ rfl) Tryz.underlying9 rfl ?_) | go_skip | (go_at_call 11; have q1 := (hS.below.block _ (HSt.out.lt 1 rfl)).trans (HSt.out.at_ 1 rfl); have q0 := (hS.below.block _ (HSt.out.lt 0 rfl)).trans (HSt.out.at_ 0 rfl); (with_reducible (refine (get_is HGN.out hksz HZ.out.2.1 q1 q0).mono ?_)); clear q0 q1; rintro e wn ⟨zg, rfl, hzo, hzs, hbn⟩; have hS1 := hS.step hbn; clear hS hbn; have hS := hS1; clear hS1; have HZG := Lib.hid (And.intro hzo hzs); have hgs := hzo.seen; clear hzo hzs) | ((with_reducible refine gate_op (op := .alloc 36) rfl ?_); refine alloc_arm rfl 36 rfl (op_alloc _) ?_; intro wn hbn hgn; have hS1 := hS.new hbn hgn; (try simp only [List.nil_append, List.cons_append, List.set_cons_zero, List.set_cons_succ] at hS1); clear hS hbn hgn; have hS := hS1; clear hS1) | ((with_reducible refine gate_op (op := .store 36 (.tmp 9) (.tmp 81)) rfl ?_); refine wpList_store_row rfl 36 (.tmp 9) (.tmp 81) rfl _ zg.o.c rfl rfl 36 _ (hS.at_ 0 rfl) (op_info _ hgs) ((OpV.size (o := zeroO) rfl).trans (OpV.size (o := zg.o) hgs).symm) (ot_one HZG.out.1.vc) ?_; intro wn hbn hgn hon hsn; have hS1 := hS.put 0 rfl hon hbn hgn; (try simp only [List.nil_append, List.cons_append, List.set_cons_zero, List.set_cons_succ] at hS1); clear hS hbn hgn hon hsn; have hS := hS1; clear hS1) | (go_at_call 16; (with_reducible (refine (HWD.out _ _ _ _ _ ((HOt.out.move hS.below).up hS.below.size) (by simp)).mono ?_)); rintro e wn ⟨rfl, hbn⟩; have hS1 := hS.step hbn; clear hS hbn; have hS := hS1; clear hS1) | ((with_reducible refine gate_op (op := .store 36 (.tmp 11) (.tmp 92)) rfl ?_); refine wpList_store_row rfl 36 (.tmp 11) (.tmp 92) rfl _ mw.o.c rfl rfl 36 _ (hS.at_ 1 rfl) (op_info _ hms) ((OpV.size (o := zeroO) rfl).trans (OpV.size (o := mw.o) hms).symm) (ot_one HMO.out.vc) ?_; intro wn hbn hgn hon hsn; have hS1 := hS.put 1 rfl hon hbn hgn; (try simp only [List.nil_append, List.cons_append, List.set_cons_zero, List.set_cons_succ] at hS1); clear hS hbn hgn hon hsn; have hS := hS1; clear hS1) | ((with_reducible refine gate_op (op := .load 36 (.tmp 9)) rfl ?_); refine wpList_load_row' rfl 36 (.tmp 9) rfl _ rfl 36 _ (0, 0) _ (hS.at_ 0 rfl) Tryz.underlying36 rfl (op_info _ hgs) ?_) | ((with_reducible refine gate_op (op := .load 36 (.tmp 11)) rfl ?_); refine wpList_load_row' rfl 36 (.tmp 11) rfl _ rfl 36 _ (0, 0) _ (hS.at_ 1 rfl) Tryz.underlying36 rfl (op_info _ hms) ?_) | (go_at_call 17; (with_reducible (refine (same_is HZG.out.1 HMO.out (HZG.out.2.symm.trans HSM.out) _).mono ?_)); rintro e wn ⟨rfl, hbn⟩; have hS1 := hS.step hbn; clear hS hbn; have hS := hS1; clear hS1))
                go_roundw
                case rel => exact ⟨j + 1, l2, (M ++ [x.op]), A8, c8, by omega, by first | rfl | (simp; done), by go_num, PlI.mk' (by first | rfl | (simp; done)) HZ.out.2.1 (by have := HZ.out.2.2; have := HP.out.ln; omega) (by have := HP.out.mn; first | omega | (simp; omega)) HPl.out (HRt.out.move hS.below) hap8.out, (HSt.out.step hS.below).drop (n := 2)⟩
                case measure => first | (simp [intOf]; done) | (simp [intOf]; omega)
    · have hjlb : decide ((j : Int) < L.length) = false := by simp; omega
      obtain rfl : j = L.length := by omega
      have hkl := keysW_len la (Nat.le_trans HP.out.ln h40)
      have HR0 := Lib.hid (show M.length ≤ 1000000 by omega)
      go_wp2_with (first | go_skip | (go_at_call 18; (with_reducible (refine (rkeys_says HP.out.pl HP.out.ok HR0.out A g c _ HO.out).mono ?_)); rintro e wn ⟨A', g', c', rfl, hs, hbn⟩; have HKr := Lib.hid hs; clear hs; have hS1 := hS.step hbn; clear hS hbn; have hS := hS1; clear hS1) | (go_at_call 13; have q0 := hS.at_ 0 rfl; have q1 := hS.at_ 1 rfl; (with_reducible (refine (lKeys_sl la pa ba _ HP.out.ok (n := 40) (Nat.le_trans HP.out.ln H40.out) q1 q0).mono ?_)); clear q0 q1; rintro e wn ⟨A2, g2, c2, rfl, hs, hbn⟩; have HKa := Lib.hid hs; have HKr2 := Lib.hid (HKr.out.move hbn); clear hs HKr; have hS1 := hS.step hbn; clear hS hbn; have hS := hS1; clear hS1) | (go_at_call 19; (with_reducible (refine (texts_eq HKa.out HKr2.out hkl hkl rfl).mono ?_)); rintro e wn ⟨rfl, hbn⟩; have hS1 := hS.step hbn; clear hS hbn; have hS := hS1; clear hS1) | (go_at_call 12; have q0 := hS.at_ 0 rfl; have q1 := hS.at_ 1 rfl; (with_reducible (refine (lLen_any la pa ba _ HP.out.ok (Nat.le_trans HP.out.ln (Nat.le_trans H40.out (by decide))) q1 q0).mono ?_)); clear q0 q1; rintro e wn ⟨rfl, hbn⟩; have hS1 := hS.step hbn; clear hS hbn; have hS := hS1; clear hS1))
      go_ret
      exact ⟨rfl, hS.below⟩
set_option maxRecDepth 100000 in
set_option maxHeartbeats 1000000 in
omit hL in
theorem plays_long (h : 40 < L.length) : Calls Tryz.prog 4 #[.slice A1 L.length c1] w fun e w' => e = .returned (.bool true) ∧ Below w.heap.size w w' := by
  have HV := Lib.hid hw
  have hS := Boxes.start w
  clear hw
  have d1 : decide ((40 : Int) < L.length) = true := by simp; omega
  clear h
  go_enter Tryz.func4, Tryz.ntmps4
  go_wp2_with (first | go_skip | (go_at_call 7; (with_reducible (refine (awake22_any _ (HV.out.step hS.below)).mono ?_)); rintro e wn ⟨rfl, hbn⟩; have hS1 := hS.step hbn; clear hS hbn; have hS := hS1; clear hS1))
  go_ret
  exact ⟨rfl, hS.below⟩
theorem lwwPlays_walk : Calls Tryz.prog 4 #[.slice A1 L.length c1] w fun e w' => e = .returned (.bool true) ∧ Below w.heap.size w w' := by
  by_cases h : 40 < L.length
  · exact plays_long A1 c1 L w hw h
  · exact plays_go A1 g1 o1 c1 L w hw hL (by omega)
end
end Go.Proofs.YteplcnpmdjdlkaaGreatDoor
