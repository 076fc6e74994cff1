/-
  Doc.Apply whole; Buffer.first, walked. Condition: the library's variables as it lays them; operations that make no object.
-/
import Derived.Test.YtffcpmohanhihaaGreatDoorRdyWJ
namespace Go.Proofs.YtffcpmohanhihaaGreatDoor
open Go.RowKit Go.Sort
set_option linter.unusedVariables false
set_option linter.unusedSimpArgs false
set_option linter.unusedSectionVars false
def AppliedD (s : DocS) (x : OT) (s' : DocS) : Prop := (applyE s x ≠ 0 ∧ s' = s) ∨ (applyE s x = 0 ∧ Took s x s')
theorem applyE_zero {s : DocS} {x : OT} (h : applyE s x = 0) : x.good = true ∧ hasB s.v x.o.R x.o.N = false ∧ coversB s.v x.o.seen = true ∧ mayB s x = true := by
  unfold applyE at h
  cases hg : x.good
  · rw [if_pos hg] at h; exact absurd h (by decide)
  rw [if_neg (by rw [hg]; decide)] at h
  cases hh : hasB s.v x.o.R x.o.N
  · rw [if_neg (by rw [hh]; decide)] at h
    cases hc : coversB s.v x.o.seen
    · rw [if_pos hc] at h; exact absurd h (by decide)
    rw [if_neg (by rw [hc]; decide)] at h
    cases hm : mayB s x
    · rw [if_pos hm] at h; exact absurd h (by decide)
    exact ⟨rfl, rfl, rfl, rfl⟩
  · rw [if_pos hh] at h; exact absurd h (by decide)
theorem withOf_range {v : List Int} {r n : Int} (hv : v.length = 64) (hr : ∀ k, k < 64 → 0 ≤ vat v k ∧ vat v k ≤ 60) : ∀ k, k < 64 → 0 ≤ vat (withOf v r n).1 k ∧ vat (withOf v r n).1 k ≤ 60 := fun k hk => by
  unfold withOf
  split
  · rename_i h
    have hg := (goodB_iff.1 h.1).2
    show 0 ≤ vat ((cleanOf v).set (r.toNat - 1) n) k ∧ vat ((cleanOf v).set (r.toNat - 1) n) k ≤ 60
    unfold vat
    rw [List.getD_eq_getElem?_getD, List.getElem?_set]
    split
    · rename_i h2
      split
      · simp only [Option.getD_some]; omega
      · simp
    · rw [← List.getD_eq_getElem?_getD]
      have := cleanOf_at v k (by omega)
      unfold vat at this
      rw [this]
      exact kn_range _
  · exact hr k hk
theorem Took.docok {s s' : DocS} {x : OT} (h : Took s x s') (hs : DocOk s) (hx : OT.Ok x) : DocOk s' := by
  obtain ⟨y, r, l2, hy, hsy, ha, rfl⟩ := h
  refine ⟨(withOf_length _ _ _).trans hs.v, withOf_range hs.v hs.vr, ?_, hs.keys.put hx.okey y, fun p hp => ?_, ha.ok hs.la hy.key⟩
  · have := hs.t; have := hx.t
    show -9223372036854775808 ≤ max s.t x.o.T ∧ max s.t x.o.T ≤ 9223372036854775807
    omega
  · rcases put_mem hp with rfl | hp
    · exact hy
    · exact hs.ok p hp
theorem AppliedD.docok {s s' : DocS} {x : OT} (h : AppliedD s x s') (hs : DocOk s) (hx : OT.Ok x) : DocOk s' := by
  rcases h with ⟨_, rfl⟩ | ⟨_, h⟩
  · exact hs
  · exact h.docok hs hx
def ApplyPost (B : DB) (s : DocS) (x : OT) (w0 w : World) (e : Ending) (w' : World) : Prop := ∃ s', e = .returned (.int .i64 (applyE s x)) ∧ AppliedD s x s' ∧ Boxes w0 w' (docBoxes B s') ∧ ButS [B.d, B.po, B.b] w w' ∧ (applyE s x ≠ 0 → Below w.heap.size w w')
theorem dApply_any (B : DB) (s : DocS) (x : OT) (w0 w : World) (hB : Boxes w0 w (docBoxes B s)) (hs : DocOk s) (hw0 : Vars w0) (hx : OpIn w x.o x.t) (hM : x.good = true → x.o.M = 0) : Calls Tryz.prog 23 #[.pointer (some ⟨B.d, 0, none⟩), opv x.o] w fun e w' => ApplyPost B s x w0 w e w' := by
  have hd := hB.doc.1
  have hw := hw0.step hB.below
  have no : ∀ (he : applyE s x ≠ 0), (Calls Tryz.prog 23 #[.pointer (some ⟨B.d, 0, none⟩), opv x.o] w fun e w' => e = .returned (.int .i64 (applyE s x)) ∧ Below w.heap.size w w') → Calls Tryz.prog 23 #[.pointer (some ⟨B.d, 0, none⟩), opv x.o] w fun e w' => ApplyPost B s x w0 w e w' := fun he h => h.mono fun e w' ⟨h1, h2⟩ => ⟨s, h1, .inl ⟨he, rfl⟩, hB.step h2, ButS.of_below h2, fun _ => h2⟩
  cases hg : x.good with
  | false => exact no (by unfold applyE; rw [if_pos hg]; decide) (dApply_bad B s x w hd hs hw hx hg)
  | true =>
    cases hh : hasB s.v x.o.R x.o.N with
    | true => exact no (by unfold applyE; rw [if_neg (by rw [hg]; decide), if_pos hh]; decide) (dApply_has B s x w hd hs hw hx hg hh)
    | false =>
      cases hc : coversB s.v x.o.seen with
      | false => exact no (by unfold applyE; rw [if_neg (by rw [hg]; decide), if_neg (by rw [hh]; decide), if_pos hc]; decide) (dApply_none B s x w hd hs hw hx hg hh hc)
      | true =>
        cases hm : mayB s x with
        | false => exact no (by unfold applyE; rw [if_neg (by rw [hg]; decide), if_neg (by rw [hh]; decide), if_neg (by rw [hc]; decide), if_pos hm]; decide) (dApply_may B s x w hd hs hw hx hg hh hc hm)
        | true =>
          have he : applyE s x = 0 := by unfold applyE; rw [if_neg (by rw [hg]; decide), if_neg (by rw [hh]; decide), if_neg (by rw [hc]; decide), if_neg (by rw [hm]; decide)]
          refine (dApply_ok B s x w0 w hB hs hw0 hx hg hh hc hm (hM hg)).mono fun e w' ⟨s', h1, h2, h3, h4⟩ => ⟨s', by rw [he]; exact h1, .inr ⟨he, h2⟩, h3, h4, fun h => absurd he h⟩
/-- A document and a buffer beside it. -/
structure Pair (w0 W : World) (B : DB) (p : Nat) (s : DocS) (A : Option Addr) (c : Nat) (L : List OT) : Prop where
  bx : Boxes w0 W (docBoxes B s)
  buf : BufAt w0 W p A c L
  np : p ∉ B.all
  ap : ∀ k, (Value.slice A L.length c).ownBlock = some k → k ∉ B.all
  ok : DocOk s
  m0 : ∀ x ∈ L, x.o.M = 0
/-- The first that needs nothing more. -/
def firstI (s : DocS) (L : List OT) : Nat := (L.takeWhile (fun z => applyE s z == 9)).length
theorem firstI_eq {s : DocS} : ∀ {L : List OT} {m : Nat}, m ≤ L.length → (∀ (i : Nat) z, i < m → L[i]? = some z → applyE s z = 9) → (∀ z, L[m]? = some z → applyE s z ≠ 9) → firstI s L = m
  | [], m, h, _, _ => by obtain rfl : m = 0 := by simpa using h
                         rfl
  | a :: L, 0, _, _, h2 => by
    unfold firstI
    rw [List.takeWhile_cons, show (applyE s a == 9) = false from beq_eq_false_iff_ne.2 (h2 a rfl)]
    rfl
  | a :: L, m + 1, h, h1, h2 => by
    unfold firstI
    rw [List.takeWhile_cons, show (applyE s a == 9) = true from beq_iff_eq.2 (h1 0 a (by omega) rfl)]
    show (L.takeWhile (fun z => applyE s z == 9)).length + 1 = m + 1
    rw [show (L.takeWhile (fun z => applyE s z == 9)).length = m from firstI_eq (by simpa using h) (fun i z hi hz => h1 (i + 1) z (by omega) (by simpa using hz)) (fun z hz => h2 z (by simpa using hz))]
theorem own_len2 (A : Option Addr) (n c m d : Nat) : (Value.slice A n c).ownBlock = (Value.slice A m d).ownBlock := by cases A <;> rfl
theorem Boxes.far {w0 W W' : World} {L : List (Nat × Obj)} {b : Nat} (h : Boxes w0 W L) (ho : ∀ k, k ≠ b → W'.heap[k]? = W.heap[k]?) (hb : Below b W W') (hn : ∀ q ∈ L, q.1 ≠ b) (hw : w0.heap.size ≤ b) : Boxes w0 W' L :=
  ⟨h.below.trans (hb.mono hw), fun i q hq => ⟨(h.rows i q hq).1, (ho q.1 (hn q (List.mem_of_getElem? hq))).trans (h.at_ i hq)⟩, h.apart⟩
theorem docBoxes_mem {B : DB} {s : DocS} {q : Nat × Obj} (h : q ∈ docBoxes B s) : q.1 ∈ B.all := by
  have : (docBoxes B s).map Prod.fst = B.all := rfl
  rw [← this]
  exact List.mem_map.2 ⟨q, h, rfl⟩
def FirstPost (B : DB) (p : Nat) (s : DocS) (A : Option Addr) (c : Nat) (L : List OT) (w0 w : World) (e : Ending) (w' : World) : Prop :=
  (firstI s L = L.length ∧ e = .returned (.tuple #[.bool false, .bool false]) ∧ Below w.heap.size w w') ∨
  ∃ x s', L[firstI s L]? = some x ∧ e = .returned (.tuple #[.bool (applyE s x == 0), .bool true]) ∧ AppliedD s x s' ∧ Pair w0 w' B p s' A c (delO (firstI s L) L) ∧ ButS (B.all ++ p :: ownL (.slice A L.length c)) w w'
section
variable (B : DB) (p : Nat) (s : DocS) (A : Option Addr) (c : Nat) (L : List OT) (w0 w : World) (hP : Pair w0 w B p s A c L) (hw0 : Vars w0) (hL : L.length ≤ 1000000)
include hP hw0 hL
set_option maxRecDepth 100000 in
set_option maxHeartbeats 4000000 in
theorem first_any : Calls Tryz.prog 25 #[.pointer (some ⟨p, 0, none⟩), .pointer (some ⟨B.d, 0, none⟩)] w fun e w' => FirstPost B p s A c L w0 w e w' := by
  have HP := Lib.hid hP
  have HV0 := Lib.hid hw0
  have HL := Lib.hid hL
  obtain ⟨A', g, c', e0, hO, hcc⟩ := hP.buf.row.slice
  injection e0 with ea _ ec
  subst ea ec
  have HO := Lib.hid hO
  have c0 : w.cell? ⟨p, 0, none⟩ = some (.slice A L.length c) := by rw [cell_of_row _ _ _ _ _ _ hP.buf.at_]; rfl
  have HPl := Lib.hid (Array.getElem?_eq_some_iff.1 hP.buf.at_).1
  clear hP hw0 hO
  go_enter Tryz.func25, Tryz.ntmps25
  go_wp2_with go_skip
  clear c0
  go_loopw [14] (fun iv wr => ∃ m : Nat, m ≤ L.length ∧ iv = .int .i64 (m : Int) ∧ (∀ (i : Nat) z, i < m → L[i]? = some z → applyE s z = 9) ∧ Below w.heap.size w wr) (fun iv _ => L.length - (intOf iv).toNat)
  case atStart => exact ⟨0, Nat.zero_le _, rfl, fun i z hi => absurd hi (Nat.not_lt_zero i), Below.refl _ _⟩
  case round =>
    rename World => wr
    obtain ⟨m, hm, rfl, hlow, hbw⟩ := hrel
    have HLOW := Lib.hid hlow
    have HB := Lib.hid hbw
    clear hlow hbw
    by_cases hml : m < L.length
    · have hmlb : decide ((m : Int) < L.length) = true := by simp; omega
      obtain ⟨z, hz⟩ : ∃ z, L[m]? = some z := ⟨_, List.getElem?_eq_getElem hml⟩
      have HZz := Lib.hid hz
      have HZo := Lib.hid (HO.out.ok z (List.mem_of_getElem? hz))
      have HZM := Lib.hid (HP.out.m0 z (List.mem_of_getElem? hz))
      have hzs := HZo.out.seen
      have iz := HO.out.ix hml c
      have cZ := Lib.hid (fun q v hv => (HO.out.move HB.out).c m z hz q v hv)
      simp only [Nat.zero_add] at iz cZ
      have hS := Boxes.start wr
      clear hz
      go_upto_region 5 with (first | ((with_reducible refine gate_op (op := .load 40 (.tmp 17)) rfl ?_); refine load_cells rfl 40 (.tmp 17) rfl _ _ rfl z.o.c _ cZ.out Tryz.underlying40 rfl (op_info _ hzs) ?_) | ((with_reducible refine gate_op (op := .alloc 40) rfl ?_); refine alloc_arm rfl 40 rfl (op_alloc _) ?_; intro wn hbn hgn; have hS1 := hS.new hbn hgn; (try simp only [List.nil_append, List.cons_append, List.set_cons_zero, List.set_cons_succ] at hS1); clear hS hbn hgn; have hS := hS1; clear hS1) | ((with_reducible refine gate_op (op := .store 40 (.tmp 7) (.tmp 18)) rfl ?_); refine wpList_store_row rfl 40 (.tmp 7) (.tmp 18) rfl _ z.o.c rfl rfl 40 _ (hS.at_ 0 rfl) (op_info _ hzs) ((OpV.size (o := zeroO) rfl).trans (OpV.size (o := z.o) hzs).symm) (ot_one HZo.out.vc) ?_; intro wn hbn hgn hon hsn; have hS1 := hS.put 0 rfl hon hbn hgn; (try simp only [List.nil_append, List.cons_append, List.set_cons_zero, List.set_cons_succ] at hS1); clear hS hbn hgn hon hsn; have hS := hS1; clear hS1) | ((with_reducible refine gate_op (op := .load 40 (.tmp 7)) rfl ?_); refine wpList_load_row' rfl 40 (.tmp 7) rfl _ rfl 40 _ (0, 0) _ (hS.at_ 0 rfl) Tryz.underlying40 rfl (op_info _ hzs) ?_) | (go_at_call 23; (with_reducible (refine (dApply_any B s z w0 _ (HP.out.bx.step (HB.out.trans (hS.below.mono HB.out.size))) HP.out.ok HV0.out (HZo.out.opin _) (fun _ => HZM.out)).mono ?_)); rintro e wn ⟨s', rfl, hap, hbx, hbs, hbel⟩; have HC := Lib.hid (HB.out.trans (hS.below.mono HB.out.size)); have HAP := Lib.hid hap; have HBX := Lib.hid hbx; have HBS := Lib.hid hbs; have HBL := Lib.hid hbel; clear hS hap hbx hbs hbel) | go_skip)
      rename World => wa
      rename_i wn _ _ _
      by_cases he : applyE s z = 9
      · have heb : (applyE s z != 9) = false := by rw [he]; rfl
        have HE := Lib.hid he
        clear he
        go_wp2_with go_skip
        go_roundw
        case rel => exact ⟨m + 1, by omega, by go_num, fun i u hi hu => by rcases (show i < m ∨ i = m by omega) with h | h; exact HLOW.out i u h hu; subst h; obtain rfl := Option.some.inj (HZz.out.symm.trans hu); exact HE.out, HC.out.trans ((HBL.out (by rw [HE.out]; decide)).mono HC.out.size)⟩
        case measure => first | (simp [intOf]; done) | (simp [intOf]; omega)
      · have heb : (applyE s z != 9) = true := by rw [bne_iff_ne]; exact he
        have HE := Lib.hid he
        have HF := Lib.hid (firstI_eq (s := s) hm HLOW.out (fun u hu => by obtain rfl := Option.some.inj (HZz.out.symm.trans hu); exact HE.out))
        clear he
        have hpS : p ∉ [B.d, B.po, B.b] := fun h => HP.out.np (by simp only [DB.all, List.mem_cons, List.not_mem_nil, or_false] at h ⊢; omega)
        have hkS : ∀ k, (Value.slice A L.length c).ownBlock = some k → k ∉ [B.d, B.po, B.b] := fun k hk h => HP.out.ap k hk (by simp only [DB.all, List.mem_cons, List.not_mem_nil, or_false] at h ⊢; omega)
        have pn : wn.heap[p]? = some (bufO (.slice A L.length c)) := (HC.out.block p HPl.out).trans HP.out.buf.at_
        have pa : wa.heap[p]? = some (bufO (.slice A L.length c)) := (HBS.out.block p (Array.getElem?_eq_some_iff.1 pn).1 hpS).trans pn
        have ra := Lib.hid ((HP.out.buf.row.move HC.out).keep (fun k hk hlt => HBS.out.block k hlt (hkS k hk)))
        have ca : wa.cell? ⟨p, 0, none⟩ = some (.slice A L.length c) := by rw [cell_of_row _ _ _ _ _ _ pa]; rfl
        have HPA := Lib.hid pa
        have hpl := (Array.getElem?_eq_some_iff.1 pa).1
        clear pn pa hpS hkS
        go_wp2_with (first | (go_at_call 50; (with_reducible (refine (delOp_any A c L w0 _ ra.out HL.out m hml).mono ?_)); rintro e wb ⟨g2, hg2, rfl, hr, hgr⟩; have HG2 := Lib.hid hg2; have HR := Lib.hid hr; have HGR := Lib.hid hgr; have hpb := (hgr.block p hpl (fun e => HP.out.buf.ap (by rw [HG2.out, ← e]))).trans HPA.out; clear hg2 hr hgr ca) | ((with_reducible refine gate_op (op := .store 49 (.tmp 34) (.tmp 32)) rfl ?_); refine store_elem rfl 49 (.tmp 34) (.tmp 32) rfl p 0 (.slice A (L.length - 1) c) rfl rfl rfl 66 _ _ hpb rfl (by kernel_rfl) ?_; intro wc hgn hon hbn hsn) | go_skip)
        go_ret2
        have hdl : (delO m L).length = L.length - 1 := by have := delO_len hml; omega
        have hgB : g2 ∉ B.all := HP.out.ap g2 HG2.out
        have hgp : g2 ≠ p := fun e => HP.out.buf.ap (by rw [HG2.out, e])
        have hgb : w0.heap.size ≤ g2 := (owns_base HP.out.buf.row.own HG2.out).1
        have hown : (Value.slice A (L.length - 1) c).ownBlock = some g2 := (own_len2 _ _ _ _ _).trans HG2.out
        unfold FirstPost
        refine .inr ⟨z, s', by rw [HF.out]; exact HZz.out, by first | rfl | (congr 3), HAP.out, ?_, ?_⟩
        · rw [HF.out]
          refine ⟨(HBX.out.grown HGR.out (fun q hq e => hgB (by have := docBoxes_mem hq; rwa [← Option.some.inj e] at this)) (fun k hk => by obtain rfl := Option.some.inj hk; exact hgb)).far hon hbn (fun q hq e => HP.out.np (e ▸ docBoxes_mem hq)) HP.out.buf.b, ⟨by rw [hdl]; exact hgn, by rw [hdl]; exact HR.out.keep (fun k hk _ => hon k (fun e => by rw [hown] at hk; exact hgp ((Option.some.inj hk).trans e))), by rw [hdl, hown]; exact fun e => hgp (Option.some.inj e), HP.out.buf.b⟩, HP.out.np, fun k hk => by rw [hdl, hown] at hk; rw [← Option.some.inj hk]; exact hgB, HAP.out.docok HP.out.ok HZo.out, fun x hx => HP.out.m0 x (by rcases List.mem_append.1 hx with h | h; exact List.mem_of_mem_take h; exact List.mem_of_mem_drop h)⟩
        · have h1 : ButS (B.all ++ p :: ownL (.slice A L.length c)) w wa := ((ButS.of_below HC.out).then' HBS.out (fun k hk => List.mem_append_left _ (by simp only [DB.all, List.mem_cons, List.not_mem_nil, or_false] at hk ⊢; omega)))
          have hgm : g2 ∈ B.all ++ p :: ownL (.slice A L.length c) := List.mem_append_right _ (List.mem_cons_of_mem _ (by unfold ownL; rw [HG2.out]; simp))
          have h2 : ButS (B.all ++ p :: ownL (.slice A L.length c)) w wb := h1.then ⟨HGR.out.os, HGR.out.tape, HGR.out.output, HGR.out.size, fun k hk hn => HGR.out.block k hk (fun e => hn (by rw [Option.some.inj e]; exact hgm))⟩
          exact h2.put hon hbn (.inl (List.mem_append_right _ (List.mem_cons_self ..)))
    · have hmlb : decide ((m : Int) < L.length) = false := by simp; omega
      obtain rfl : m = L.length := by omega
      have HF := Lib.hid (firstI_eq (s := s) hm HLOW.out (fun u hu => by rw [List.getElem?_eq_none (Nat.le_refl _)] at hu; cases hu))
      go_wp2_with go_skip
      go_ret2
      unfold FirstPost
      exact .inl ⟨HF.out, rfl, HB.out⟩
end
end Go.Proofs.YtffcpmohanhihaaGreatDoor
