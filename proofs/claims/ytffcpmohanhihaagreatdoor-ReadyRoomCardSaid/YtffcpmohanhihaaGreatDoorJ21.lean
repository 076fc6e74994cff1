/-
  Buffer.Add, walked. Condition: the library's variables as it lays them; operations that make no object; at most 256 wait.
  Buffer.Len, Waiting, Copy, walked; slices.Clone at operations. Condition: the buffer is one's own.
-/
import Derived.Test.YtffcpmohanhihaaGreatDoorRdyFJ
import Derived.Test.YtffcpmohanhihaaGreatDoorJ6
namespace Go.Proofs.YtffcpmohanhihaaGreatDoor
open Go.RowKit Go.Sort
set_option linter.unusedVariables false
set_option linter.unusedSimpArgs false
set_option linter.unusedSectionVars false
/-- What waits is done, the first that may be each time. -/
inductive Steps (s : DocS) (L : List OT) (n : Int) : DocS → List OT → Int → Prop
  | refl : Steps s L n s L n
  | step {s1 s2 : DocS} {L1 : List OT} {n1 : Int} {x : OT} (h : Steps s L n s1 L1 n1) (hx : L1[firstI s1 L1]? = some x) (ha : AppliedD s1 x s2) : Steps s L n s2 (delO (firstI s1 L1) L1) (if applyE s1 x = 0 then n1 + 1 else n1)
def AddR (s : DocS) (L : List OT) (x : OT) (n r : Int) (s' : DocS) (L' : List OT) : Prop :=
  (applyE s x = 9 ∧ n = 0 ∧ s' = s ∧ Waited x L r L') ∨ (applyE s x ≠ 9 ∧ applyE s x ≠ 0 ∧ n = 0 ∧ r = applyE s x ∧ s' = s ∧ L' = L) ∨ (applyE s x = 0 ∧ r = 0 ∧ ∃ s1, Took s x s1 ∧ Steps s1 L 1 s' L' n ∧ firstI s' L' = L'.length)
def lenAt (p : Nat) (W : World) : Nat := match W.cell? ⟨p, 0, none⟩ with
  | some (.slice _ n _) => n
  | _ => 0
theorem lenAt_is {w0 W : World} {p : Nat} {A : Option Addr} {c : Nat} {L : List OT} (h : BufAt w0 W p A c L) : lenAt p W = L.length := by
  unfold lenAt
  rw [cell_of_row _ _ _ _ _ _ h.at_]
  rfl
def OwnR (A A' : Option Addr) (w : World) : Prop := (Value.slice A' 0 0).ownBlock = (Value.slice A 0 0).ownBlock ∨ ∃ k, (Value.slice A' 0 0).ownBlock = some k ∧ w.heap.size ≤ k
def AddPost (B : DB) (p : Nat) (s : DocS) (A : Option Addr) (c : Nat) (L : List OT) (x : OT) (w0 w : World) (e : Ending) (w' : World) : Prop :=
  ∃ n r s' A' c' L', e = .returned (.tuple #[.int .i64 n, .int .i64 r]) ∧ AddR s L x n r s' L' ∧ Pair w0 w' B p s' A' c' L' ∧ ButS (B.all ++ p :: ownL (.slice A 0 0)) w w' ∧ OwnR A A' w
theorem Pair.step {w0 W W' : World} {B : DB} {p : Nat} {s : DocS} {A : Option Addr} {c : Nat} {L : List OT} (h : Pair w0 W B p s A c L) (hb : Below W.heap.size W W') : Pair w0 W' B p s A c L :=
  ⟨h.bx.step hb, ⟨(hb.block p (Array.getElem?_eq_some_iff.1 h.buf.at_).1).trans h.buf.at_, h.buf.row.move hb, h.buf.ap, h.buf.b⟩, h.np, h.ap, h.ok, h.m0⟩
theorem doc_sub {B : DB} {k : Nat} (h : k ∈ [B.d, B.po, B.b]) : k ∈ B.all := by
  simp only [DB.all, List.mem_cons, List.not_mem_nil, or_false] at h ⊢; omega
/-- The document turned by Apply, the buffer beside it. -/
theorem Pair.turn {w0 W W' : World} {B : DB} {p : Nat} {s s' : DocS} {A : Option Addr} {c : Nat} {L : List OT} (h : Pair w0 W B p s A c L) (hb : ButS [B.d, B.po, B.b] W W') (hx : Boxes w0 W' (docBoxes B s')) (hs : DocOk s') : Pair w0 W' B p s' A c L :=
  ⟨hx, ⟨(hb.block p (Array.getElem?_eq_some_iff.1 h.buf.at_).1 (fun e => h.np (doc_sub e))).trans h.buf.at_, h.buf.row.keep (fun k hk hlt => hb.block k hlt (fun e => h.ap k hk (doc_sub e))), h.buf.ap, h.buf.b⟩, h.np, h.ap, hs, h.m0⟩
theorem Boxes.stay {w0 W W' : World} {L : List (Nat × Obj)} {S : List Nat} (h : Boxes w0 W L) (hb : ButS S W W') (hn : ∀ q ∈ L, q.1 ∉ S) (hS : ∀ k ∈ S, w0.heap.size ≤ k) : Boxes w0 W' L :=
  ⟨h.below.trans ⟨hb.os, hb.tape, hb.output, hb.size, fun k hk => hb.block k (Nat.lt_of_lt_of_le hk h.below.size) (fun e => by have := hS k e; omega)⟩, fun i q hq => ⟨(h.rows i q hq).1, (hb.block q.1 (h.lt i hq) (hn q (List.mem_of_getElem? hq))).trans (h.at_ i hq)⟩, h.apart⟩
theorem ownL_mem {v : Value} {k : Nat} : k ∈ ownL v ↔ v.ownBlock = some k := by unfold ownL; exact Option.mem_toList
theorem Waited.m0 {x : OT} {L L' : List OT} {r : Int} (h : Waited x L r L') (hL : ∀ z ∈ L, z.o.M = 0) (hx : x.o.M = 0) : ∀ z ∈ L', z.o.M = 0 := by
  rcases h with ⟨_, _, rfl⟩ | ⟨_, _, _, rfl⟩ | ⟨_, _, _, y, _, hs, rfl⟩
  · exact hL
  · exact hL
  · intro z hz
    unfold insO at hz
    rcases List.mem_append.1 hz with hz | hz
    · exact hL z (List.mem_of_mem_take hz)
    · rcases List.mem_cons.1 hz with rfl | hz
      · rw [← hs.M]; exact hx
      · exact hL z (List.mem_of_mem_drop hz)
/-- The buffer turned by wait, the document beside it. -/
theorem Pair.waited {w0 W W' : World} {B : DB} {p : Nat} {s : DocS} {A A' : Option Addr} {c c' : Nat} {L L' : List OT} {x : OT} {r : Int} (h : Pair w0 W B p s A c L) (hx : x.o.M = 0) (hw : Waited x L r L') (hb : BufAt w0 W' p A' c' L') (hs : ButS (p :: ownL (.slice A L.length c)) W W') (hat : (Value.slice A' L'.length c').ownBlock = (Value.slice A L.length c).ownBlock ∨ ∃ k, (Value.slice A' L'.length c').ownBlock = some k ∧ W.heap.size ≤ k) : Pair w0 W' B p s A' c' L' := by
  refine ⟨h.bx.stay hs (fun q hq e => ?_) (fun k hk => ?_), hb, h.np, fun k hk hm => ?_, h.ok, hw.m0 h.m0 hx⟩
  · rcases List.mem_cons.1 e with e | e
    · exact h.np (e ▸ docBoxes_mem hq)
    · exact h.ap _ (ownL_mem.1 e) (docBoxes_mem hq)
  · rcases List.mem_cons.1 hk with rfl | hk
    · exact h.buf.b
    · exact (owns_base h.buf.row.own (ownL_mem.1 hk)).1
  · rcases hat with e | ⟨k2, e, hk2⟩
    · exact h.ap k (e.symm.trans hk) hm
    · rw [hk] at e
      obtain rfl := Option.some.inj e
      have := (h.bx.doc.2.2 k hm).2
      omega
theorem firstI_le (s : DocS) (L : List OT) : firstI s L ≤ L.length := (List.takeWhile_sublist _).length_le
section
variable (B : DB) (p : Nat) (s : DocS) (A : Option Addr) (c : Nat) (L : List OT) (w0 w : World) (hP : Pair w0 w B p s A c L) (hw0 : Vars w0) (hL : L.length ≤ 1000000)
include hP hw0 hL
theorem first_none (h : firstI s L = L.length) : Calls Tryz.prog 25 #[.pointer (some ⟨p, 0, none⟩), .pointer (some ⟨B.d, 0, none⟩)] w fun e w' => e = .returned (.tuple #[.bool false, .bool false]) ∧ Below w.heap.size w w' :=
  (first_any B p s A c L w0 w hP hw0 hL).mono fun e w' hf => by
    unfold FirstPost at hf
    rcases hf with ⟨_, h1, h2⟩ | ⟨x, s', hx, _⟩
    · exact ⟨h1, h2⟩
    · rw [h, List.getElem?_eq_none (Nat.le_refl _)] at hx; cases hx
theorem first_some (h : firstI s L ≠ L.length) : ∃ x, L[firstI s L]? = some x ∧ Calls Tryz.prog 25 #[.pointer (some ⟨p, 0, none⟩), .pointer (some ⟨B.d, 0, none⟩)] w fun e w' => ∃ s', e = .returned (.tuple #[.bool (applyE s x == 0), .bool true]) ∧ AppliedD s x s' ∧ Pair w0 w' B p s' A c (delO (firstI s L) L) ∧ ButS (B.all ++ p :: ownL (.slice A L.length c)) w w' := by
  have hlt : firstI s L < L.length := by have := firstI_le s L; omega
  refine ⟨_, List.getElem?_eq_getElem hlt, (first_any B p s A c L w0 w hP hw0 hL).mono fun e w' hf => ?_⟩
  unfold FirstPost at hf
  rcases hf with ⟨h1, _⟩ | ⟨x, s', hx, h1, h2, h3, h4⟩
  · exact absurd h1 h
  · rw [List.getElem?_eq_getElem hlt] at hx
    obtain rfl := Option.some.inj hx
    exact ⟨s', h1, h2, h3, h4⟩
end
section
variable (B : DB) (p : Nat) (s : DocS) (A : Option Addr) (c : Nat) (L : List OT) (x : OT) (w0 w : World) (hP : Pair w0 w B p s A c L) (hw0 : Vars w0) (hL : L.length ≤ 256) (hx : OT.Ok x) (hxm : x.o.M = 0)
include hP hw0 hL hx hxm
set_option maxRecDepth 100000 in
set_option maxHeartbeats 4000000 in
theorem add_any : Calls Tryz.prog 11 #[.pointer (some ⟨p, 0, none⟩), .pointer (some ⟨B.d, 0, none⟩), opv x.o] w fun e w' => AddPost B p s A c L x w0 w e w' := by
  have HP := Lib.hid hP
  have HV0 := Lib.hid hw0
  have HL := Lib.hid hL
  have HX := Lib.hid hx
  have HXM := Lib.hid hxm
  have hxs := hx.seen
  have hS : Boxes w (w.alloc (Obj.cells x.o.c 40)) [(w.heap.size, Obj.cells x.o.c 40)] := (Boxes.start w).alloc _
  clear hP hw0 hL hx hxm
  go_enter Tryz.func11, Tryz.ntmps11
  go_upto_region 2 with (first | go_skip | ((with_reducible refine gate_op (op := .load 40 (.tmp 5)) rfl ?_); refine wpList_load_row' rfl 40 (.tmp 5) rfl _ rfl 40 _ (0, 0) _ (hS.at_ 0 rfl) Tryz.underlying40 rfl (op_info _ hxs) ?_) | (go_at_call 23; (with_reducible (refine (dApply_any B s x w0 _ (HP.out.bx.step hS.below) HP.out.ok HV0.out (HX.out.opin _) (fun _ => HXM.out)).mono ?_)); rintro e wn ⟨s', rfl, hap, hbx, hbs, hbel⟩; have HC := Lib.hid hS; have HAP := Lib.hid hap; have HBX := Lib.hid hbx; have HBS := Lib.hid hbs; have HBL := Lib.hid hbel; clear hS hap hbx hbs hbel))
  rename World => wa
  have HF1 : Hid (ButS (B.all ++ p :: ownL (.slice A 0 0)) w wa) := Lib.hid ((ButS.of_below HC.out.below).then' HBS.out (fun k hk => List.mem_append_left _ (doc_sub hk)))
  by_cases h9 : applyE s x = 9
  · have H9 := Lib.hid h9
    have hbel := HBL.out (by rw [h9]; decide)
    have hS := HC.out.step hbel
    have hPa := Lib.hid (HP.out.step hS.below)
    rw [h9]
    clear h9 hbel
    go_wp2_with (first | go_skip | ((with_reducible refine gate_op (op := .load 40 (.tmp 5)) rfl ?_); refine wpList_load_row' rfl 40 (.tmp 5) rfl _ rfl 40 _ (0, 0) _ (hS.at_ 0 rfl) Tryz.underlying40 rfl (op_info _ hxs) ?_) | (go_at_call 24; (with_reducible (refine (wait_any p A c L x w0 _ hPa.out.buf HX.out HL.out (Nat.le_trans HP.out.bx.below.size hS.below.size)).mono ?_)); rintro e wb ⟨r, L', A', c', rfl, hwt, hbf, hbs, hat⟩; have HWT := Lib.hid hwt; have HBF := Lib.hid hbf; have HBW := Lib.hid hbs; have HAT := Lib.hid hat; clear hwt hbf hbs hat))
    go_ret2
    unfold AddPost
    refine ⟨0, r, s, A', c', L', rfl, .inl ⟨H9.out, rfl, rfl, HWT.out⟩, hPa.out.waited HXM.out HWT.out HBF.out HBW.out HAT.out, (ButS.of_below hS.below).then' HBW.out (fun k hk => ?_), ?_⟩
    · rcases List.mem_cons.1 hk with rfl | hk
      · exact List.mem_append_right _ (List.mem_cons_self ..)
      · exact List.mem_append_right _ (List.mem_cons_of_mem _ (ownL_mem.2 ((own_len2 _ _ _ _ _).trans (ownL_mem.1 hk))))
    · rcases HAT.out with e | ⟨k, e, hk⟩
      · exact .inl ((own_len2 _ _ _ _ _).trans (e.trans (own_len2 _ _ _ _ _)))
      · exact .inr ⟨k, (own_len2 _ _ _ _ _).trans e, Nat.le_trans hS.below.size hk⟩
  · by_cases h0 : applyE s x = 0
    · have H0 := Lib.hid h0
      have HT : Hid (Took s x s') := Lib.hid (by rcases HAP.out with ⟨h, _⟩ | ⟨_, h⟩; exact absurd h0 h; exact h)
      have hPa := Lib.hid ((HP.out.step HC.out.below).turn HBS.out HBX.out (HT.out.docok HP.out.ok HX.out))
      have hLs := HL.out
      rw [h0]
      clear h0 h9
      go_wp2_with go_skip
      go_loopw [9] (fun nv wr => ∃ (n : Nat) (s2 : DocS) (L2 : List OT), nv = .int .i64 (n : Int) ∧ (Steps s' L 1 s2 L2 n ∧ n + L2.length ≤ 1 + L.length) ∧ Pair w0 wr B p s2 A c L2 ∧ ButS (B.all ++ p :: ownL (.slice A 0 0)) w wr) (fun _ wr => lenAt p wr)
      case atStart => exact ⟨1, s', L, rfl, ⟨.refl, Nat.le_refl _⟩, hPa.out, HF1.out⟩
      case round =>
        rename World => wr
        obtain ⟨n, s2, L2, rfl, ⟨hst, hnl⟩, hpr, hbr⟩ := hrel
        have HST := Lib.hid hst
        have HPR := Lib.hid hpr
        have HBR := Lib.hid hbr
        clear hst hpr hbr
        by_cases hfi : firstI s2 L2 = L2.length
        · have HFI := Lib.hid hfi
          clear hfi
          have hL2 := Lib.hid (show L2.length ≤ 1000000 by omega)
          go_wp2_with (first | go_skip | (go_at_call 25; (with_reducible (refine (first_none B p s2 A c L2 w0 _ HPR.out HV0.out hL2.out HFI.out).mono ?_)); rintro e wb ⟨rfl, hbn⟩; have HBN := Lib.hid hbn; clear hbn))
          go_ret2
          unfold AddPost
          exact ⟨n, 0, s2, A, c, L2, rfl, .inr (.inr ⟨H0.out, rfl, s', HT.out, HST.out, HFI.out⟩), HPR.out.step HBN.out, HBR.out.step HBN.out, .inl rfl⟩
        · obtain ⟨z, hz, hcf⟩ := first_some B p s2 A c L2 w0 wr HPR.out HV0.out (by omega) hfi
          have HCF := Lib.hid hcf
          have HZ := Lib.hid hz
          have hlt : firstI s2 L2 < L2.length := (List.getElem?_eq_some_iff.1 hz).1
          have hdl := delO_len hlt
          clear hcf hz
          cases he : (applyE s2 z == 0)
          · go_wp2_with (first | go_skip | (go_at_call 25; (with_reducible (refine HCF.out.mono ?_)); rintro e wb ⟨s3, rfl, hap, hpr, hbs⟩; rw [he]; have HA3 := Lib.hid hap; have HP3 := Lib.hid hpr; have HB3 := Lib.hid hbs; clear hap hpr hbs))
            go_roundw
            case rel => exact ⟨n, s3, _, rfl, ⟨by have := Steps.step HST.out HZ.out HA3.out; rw [if_neg (by rw [beq_eq_false_iff_ne] at he; exact he)] at this; exact this, by omega⟩, HP3.out, HBR.out.then (HB3.out.more (fun k hk => by rcases List.mem_append.1 hk with h | h; exact List.mem_append_left _ h; rcases List.mem_cons.1 h with h | h; (rw [h]; exact List.mem_append_right _ (List.mem_cons_self ..)); exact List.mem_append_right _ (List.mem_cons_of_mem _ (ownL_mem.2 ((own_len2 _ _ _ _ _).trans (ownL_mem.1 h))))))⟩
            case measure => rw [lenAt_is HP3.out.buf, lenAt_is HPR.out.buf]; omega
          · go_wp2_with (first | go_skip | (go_at_call 25; (with_reducible (refine HCF.out.mono ?_)); rintro e wb ⟨s3, rfl, hap, hpr, hbs⟩; rw [he]; have HA3 := Lib.hid hap; have HP3 := Lib.hid hpr; have HB3 := Lib.hid hbs; clear hap hpr hbs))
            go_roundw
            case rel => exact ⟨n + 1, s3, _, by go_num, ⟨by have := Steps.step HST.out HZ.out HA3.out; rw [if_pos (by rw [beq_iff_eq] at he; exact he)] at this; exact this, by omega⟩, HP3.out, HBR.out.then (HB3.out.more (fun k hk => by rcases List.mem_append.1 hk with h | h; exact List.mem_append_left _ h; rcases List.mem_cons.1 h with h | h; (rw [h]; exact List.mem_append_right _ (List.mem_cons_self ..)); exact List.mem_append_right _ (List.mem_cons_of_mem _ (ownL_mem.2 ((own_len2 _ _ _ _ _).trans (ownL_mem.1 h))))))⟩
            case measure => rw [lenAt_is HP3.out.buf, lenAt_is HPR.out.buf]; omega
    · have H9 := Lib.hid h9
      have H0 := Lib.hid h0
      have b9 : (applyE s x == 9) = false := by rw [beq_eq_false_iff_ne]; exact h9
      have b0 : (applyE s x == 0) = false := by rw [beq_eq_false_iff_ne]; exact h0
      have hbel := HBL.out h0
      have hS := HC.out.step hbel
      clear h9 h0 hbel
      go_wp2_with go_skip
      go_ret2
      unfold AddPost
      exact ⟨0, applyE s x, s, A, c, L, rfl, .inr (.inl ⟨H9.out, H0.out, rfl, rfl, rfl, rfl⟩), HP.out.step hS.below, ButS.of_below hS.below, .inl rfl⟩
end
end Go.Proofs.YtffcpmohanhihaaGreatDoor
namespace Go.Proofs.YtffcpmohanhihaaGreatDoor
open Go.RowKit Go.Sort
set_option linter.unusedVariables false
set_option linter.unusedSimpArgs false
set_option linter.unusedSectionVars false
set_option maxRecDepth 100000 in
theorem cloneO_nil (n c : Nat) (w : World) : Calls Tryz.prog 38 #[.slice none n c] w fun e w' => e = .returned (.slice none 0 0) ∧ Below w.heap.size w w' := by
  have q := fun (w : World) (a : Option Addr) (n c : Nat) => Lib.run_eql_slice_nil (P := Tryz.prog) w 49 40 a n c 0 0 Tryz.underlying49
  go_enter Tryz.func38, Tryz.ntmps38
  go_wp2
  go_ret
  exact ⟨rfl, Below.refl _ _⟩
set_option maxHeartbeats 1000000 in
set_option maxRecDepth 100000 in
theorem cloneO_some (ad : Addr) (n c : Nat) (news : List Value) (w : World) (hl : news.length = n * 79) (hn : n * 680 ≤ 140737488355328) (hc : ∀ j u, news[j]? = some u → w.cell? (ad.add j) = some u) (h1 : ∀ u ∈ news, u.oneCell' = true) :
    Calls Tryz.prog 38 #[.slice (some ad) n c] w fun e w' => ∃ v', e = .returned v' ∧ w'.ownsRow w.heap.size 40 79 v' n news ∧ v' ≠ .slice none 0 0 ∧ Below w.heap.size w w' := by
  have q := fun (w : World) (a : Option Addr) (n c : Nat) => Lib.run_eql_slice_nil (P := Tryz.prog) w 49 40 a n c 0 0 Tryz.underlying49
  obtain ⟨i0, hi, hz⟩ := Option.map_eq_some_iff.1 infoO
  have hz0 : i0.zero = some (.agg zeroO.c) := congrArg Prod.fst hz
  have hz1 : i0.size = 79 := congrArg (fun x => x.2.1) hz
  have hz2 : i0.bytes = 680 := congrArg (fun x => x.2.2) hz
  have HC := Lib.hid hc
  have hm : n ≤ maxLen := by have : maxLen = 9223372036854775807 := (by decide); omega
  clear hc hz
  go_enter Tryz.func38, Tryz.ntmps38
  go_wp2_with (at_builtin; refine wpList_append_own _ rfl _ _ 49 rfl w.heap.size 40 i0 (.agg zeroO.c) 79 680 Tryz.underlying49 hi hz0 hz1 hz2 (by kernel_rfl) (by decide) _ _ _ rfl (World.ownsRow_made w #[] 0 (Nat.le_refl _) (Nat.zero_le _) (by simp)) ad n c news rfl hl ?qc2 h1 ?qc4 ?qc5 ?qc6 ?_)
  case qc2 => exact fun j u hj => Lib.cell?_alloc_some _ (HC.out j u hj)
  case qc4 => rw [Nat.zero_add]; exact hm
  case qc5 => rw [Nat.zero_add]; exact hn
  case qc6 => simp
  intro v' w1 hown hgrow hnil
  go_wp2
  go_ret
  refine ⟨v', rfl, by simpa using hown, ?_, ?_⟩
  · exact hnil
  · exact ((Below.refl _ w).alloc (Nat.le_refl _) _).grown hgrow (by simp) (by intro k hk; simp [Value.ownBlock] at hk; omega)
/-- Two rows, alike one by one. -/
def SameL (L M : List OT) : Prop := M.length = L.length ∧ ∀ (i : Nat) x, L[i]? = some x → ∃ y, M[i]? = some y ∧ OT.Same x y
theorem SameL.nil : SameL [] [] := ⟨rfl, fun i x h => by simp at h⟩
theorem SameL.snoc {L M : List OT} {x y : OT} (h : SameL L M) (hs : OT.Same x y) : SameL (L ++ [x]) (M ++ [y]) := by
  refine ⟨by simp [h.1], fun i z hz => ?_⟩
  rcases Nat.lt_or_ge i L.length with hi | hi
  · rw [List.getElem?_append_left hi] at hz
    obtain ⟨u, hu, hsu⟩ := h.2 i z hz
    exact ⟨u, by rw [List.getElem?_append_left (by rw [h.1]; exact hi)]; exact hu, hsu⟩
  · rw [List.getElem?_append_right hi] at hz
    have h0 : i - L.length = 0 := by
      have := (List.getElem?_eq_some_iff.1 hz).1
      simp at this; omega
    rw [h0] at hz
    obtain rfl : x = z := by simpa using hz
    exact ⟨y, by rw [List.getElem?_append_right (by rw [h.1]; exact hi), h.1, h0]; rfl, hs⟩
section
variable (p : Nat) (A : Option Addr) (c : Nat) (L : List OT) (w0 w : World) (hb : BufAt w0 w p A c L)
include hb
set_option maxRecDepth 100000 in
set_option maxHeartbeats 1000000 in
theorem bLen_any : Calls Tryz.prog 13 #[.pointer (some ⟨p, 0, none⟩)] w fun e w' => e = .returned (.int .i64 L.length) ∧ Below w.heap.size w w' := by
  have c0 : w.cell? ⟨p, 0, none⟩ = some (.slice A L.length c) := by rw [cell_of_row _ _ _ _ _ _ hb.at_]; rfl
  clear hb
  go_enter Tryz.func13, Tryz.ntmps13
  go_wp2_with go_skip
  go_ret
  exact ⟨rfl, Below.refl _ _⟩
def WaitingPost (L : List OT) (w : World) (e : Ending) (w' : World) : Prop := ∃ (M : List OT) (A' : Option Addr) (c' : Nat), e = .returned (.slice A' M.length c') ∧ SameL L M ∧ RowW w w' (.slice A' M.length c') M ∧ Below w.heap.size w w'
set_option maxRecDepth 100000 in
set_option maxHeartbeats 4000000 in
theorem bWaiting_any (hn : L.length ≤ 100000) : Calls Tryz.prog 17 #[.pointer (some ⟨p, 0, none⟩)] w fun e w' => WaitingPost L w e w' := by
  have c0 : w.cell? ⟨p, 0, none⟩ = some (.slice A L.length c) := by rw [cell_of_row _ _ _ _ _ _ hb.at_]; rfl
  obtain ⟨A', g, c', e0, hO, hcc⟩ := hb.row.slice
  injection e0 with ea _ ec
  subst ea ec
  have HO := Lib.hid hO
  clear hb hO
  go_enter Tryz.func17, Tryz.ntmps17
  go_wp2_with go_skip
  clear c0
  go_loopw [3, 11] (fun lv iv wr => ∃ (m : Nat) (M : List OT) (A2 : Option Addr) (c2 : Nat), m ≤ L.length ∧ lv = .slice A2 M.length c2 ∧ iv = .int .i64 (m : Int) ∧ SameL (L.take m) M ∧ RowW w wr (.slice A2 M.length c2) M ∧ Below w.heap.size w wr) (fun _ iv _ => L.length - (intOf iv).toNat)
  case atStart => exact ⟨0, [], none, 0, Nat.zero_le _, rfl, rfl, SameL.nil, RowW.nil _ _, Below.refl _ _⟩
  case round =>
    rename World => wr
    obtain ⟨m, M, A2, c2, hm, rfl, rfl, hsl, hrw, hbw⟩ := hrel
    have HSL := Lib.hid hsl
    have HRW := Lib.hid hrw
    have HB := Lib.hid hbw
    have HML : Hid (M.length = m) := Lib.hid (by rw [hsl.1, List.length_take]; omega)
    clear hsl hrw hbw
    by_cases hml : m < L.length
    · have hmlb : decide ((m : Int) < L.length) = true := by simp; omega
      obtain ⟨z, hz⟩ : ∃ z, L[m]? = some z := ⟨_, List.getElem?_eq_getElem hml⟩
      have HZz := Lib.hid hz
      have HZo := Lib.hid (HO.out.ok z (List.mem_of_getElem? hz))
      have hzs := HZo.out.seen
      have iz := HO.out.ix hml c
      have cZ := Lib.hid (fun q v hv => (HO.out.move HB.out).c m z hz q v hv)
      simp only [Nat.zero_add] at iz cZ
      have hS := Boxes.start wr
      have hn2 : M.length + 1 ≤ 1000000 := by have := HML.out; omega
      clear hz
      go_wp2_with (first | ((with_reducible refine gate_op (op := .load 40 (.tmp 13)) rfl ?_); refine load_cells rfl 40 (.tmp 13) rfl _ _ rfl z.o.c _ cZ.out Tryz.underlying40 rfl (op_info _ hzs) ?_) | ((with_reducible refine gate_op (op := .alloc 40) rfl ?_); refine alloc_arm rfl 40 rfl (op_alloc _) ?_; intro wn hbn hgn; have hS1 := hS.new hbn hgn; (try simp only [List.nil_append, List.cons_append, List.set_cons_zero, List.set_cons_succ] at hS1); clear hS hbn hgn; have hS := hS1; clear hS1) | ((with_reducible refine gate_op (op := .store 40 (.tmp 5) (.tmp 14)) rfl ?_); refine wpList_store_row rfl 40 (.tmp 5) (.tmp 14) rfl _ z.o.c rfl rfl 40 _ (hS.at_ 0 rfl) (op_info _ hzs) ((OpV.size (o := zeroO) rfl).trans (OpV.size (o := z.o) hzs).symm) (ot_one HZo.out.vc) ?_; intro wn hbn hgn hon hsn; have hS1 := hS.put 0 rfl hon hbn hgn; (try simp only [List.nil_append, List.cons_append, List.set_cons_zero, List.set_cons_succ] at hS1); clear hS hbn hgn hon hsn; have hS := hS1; clear hS1) | ((with_reducible refine gate_op (op := .load 40 (.tmp 5)) rfl ?_); refine wpList_load_row' rfl 40 (.tmp 5) rfl _ rfl 40 _ (0, 0) _ (hS.at_ 0 rfl) Tryz.underlying40 rfl (op_info _ hzs) ?_) | (go_at_call 30; (with_reducible (refine (oCopy_op z _ HZo.out).mono ?_)); rintro e wn ⟨y, rfl, hyo, hys, hbn⟩; have HY := Lib.hid hyo; have HYS := Lib.hid hys; have b1 := Lib.hid (build_op1 y.o.c (OpV.size hyo.seen)); have hS1 := hS.step hbn; clear hS hbn hyo hys; have hS := hS1; clear hS1) | ((with_reducible refine gate_op (op := .buildSlice 49 1 #[(0, .tmp 17)]) rfl ?_); refine slice_arm rfl 49 1 #[(0, .tmp 17)] rfl #[(0, .agg y.o.c)] (by simp only [List.map_toArray, List.map_cons, List.map_nil]; rfl) _ _ (b1.out _) ?_; intro wn hbn hgn; have hS1 := hS.step hbn; have hR1 := HRW.out.move hS1.below; have hgx := Lib.hid hgn; have hsz := Nat.le_trans HB.out.size hS1.below.size; clear hS hbn hgn; have hS := hS1; clear hS1) | ((with_reducible refine gate_op (op := .call { callee := .builtin .append, args := #[.tmp 15, .tmp 18], argTypes := #[49, 49] }) rfl ?_); refine apop_arm rfl (.tmp 15) (.tmp 18) rfl y _ rfl rfl hR1 HY.out hgx.out hn2 hsz ?_; intro A8 g8 c8 w8 hR8 hgr hat hO8) | go_skip)
      go_roundw
      case rel => exact ⟨m + 1, M ++ [y], A8, c8, by omega, by first | rfl | (simp; done), by go_num, by rw [List.take_add_one, HZz.out]; exact HSL.out.snoc HYS.out, by have := hR8; simpa using this, (HB.out.trans (hS.below.mono HB.out.size)).trans (below_of_grown hgr hsz (fun k hk => (owns_base hR1.own hk).1))⟩
      case measure => first | (simp [intOf]; done) | (simp [intOf]; omega)
    · have hmlb : decide ((m : Int) < L.length) = false := by simp; omega
      obtain rfl : m = L.length := by omega
      go_wp2_with go_skip
      go_ret
      unfold WaitingPost
      exact ⟨M, A2, c2, rfl, by have := HSL.out; rwa [List.take_length] at this, HRW.out, HB.out⟩
omit hb in
theorem cloneOp_any (hR : RowW w0 w (.slice A L.length c) L) (hn : L.length ≤ 100000) : Calls Tryz.prog 38 #[.slice A L.length c] w fun e w' => ∃ A' c', e = .returned (.slice A' L.length c') ∧ RowW w w' (.slice A' L.length c') L ∧ Below w.heap.size w w' := by
  cases A with
  | none =>
    have h0 : L = [] := by
      cases L with
      | nil => rfl
      | cons a L =>
        rcases hR.own.2 with ⟨_, h⟩ | ⟨g2, cap, cur, h1, _⟩
        · simp at h
        · cases h1
    subst h0
    exact (cloneO_nil 0 c w).mono fun e w' ⟨he, hb⟩ => ⟨none, 0, he, RowW.nil _ _, hb⟩
  | some ad =>
    rcases hR.own.2 with ⟨h1, _⟩ | ⟨g2, cap, cur, h1, _, hg, _, _, hcs, htk⟩
    · cases h1
    injection h1 with h1 _ _
    injection h1 with h1
    subst h1
    refine (cloneO_some _ L.length c (flatO L) w (flatO_len hR.ok) (by omega) (fun j u hu => ?_) (flatO_one hR.ok)).mono fun e w' ⟨v', he, hown, _, hb⟩ => ?_
    · rw [add_at, Nat.zero_add, cell_of_row _ _ _ _ _ _ hg, ← Array.getElem?_toList]
      rw [← htk, List.getElem?_take] at hu
      split at hu
      · exact hu
      · cases hu
    · have hRW : RowW w w' v' L := ⟨hown, hR.ok⟩
      obtain ⟨A8, g8, c8, rfl, _, _⟩ := hRW.slice
      exact ⟨A8, c8, he, hRW, hb⟩
def CopyPost (L : List OT) (w0 w : World) (e : Ending) (w' : World) : Prop := ∃ (p2 : Nat) (A2 : Option Addr) (c2 : Nat), e = .returned (.pointer (some ⟨p2, 0, none⟩)) ∧ BufAt w w' p2 A2 c2 L ∧ Below w.heap.size w w'
set_option maxRecDepth 100000 in
set_option maxHeartbeats 2000000 in
theorem bCopy_any (hn : L.length ≤ 100000) : Calls Tryz.prog 21 #[.pointer (some ⟨p, 0, none⟩)] w fun e w' => CopyPost L w0 w e w' := by
  have c0 : w.cell? ⟨p, 0, none⟩ = some (.slice A L.length c) := by rw [cell_of_row _ _ _ _ _ _ hb.at_]; rfl
  have HB := Lib.hid hb
  clear hb
  go_enter Tryz.func21, Tryz.ntmps21
  go_wp2_with (first | go_skip | (go_at_call 38; (with_reducible (refine (cloneOp_any A c L w0 _ HB.out.row hn).mono ?_)); rintro e wn ⟨A2, c2, rfl, hr, hbn⟩; have HR := Lib.hid hr; have HBN := Lib.hid hbn; clear hr hbn))
  go_ret
  rename World => wn
  unfold CopyPost
  have hb1 : Below wn.heap.size wn (wn.alloc (bufO (.slice A2 L.length c2))) := Below.alloc (Below.refl _ _) (Nat.le_refl _) _
  exact ⟨wn.heap.size, A2, c2, rfl, ⟨heap_alloc_new _ _, HR.out.move hb1, fun e => by have := (owns_base HR.out.own e).2; omega, HBN.out.size⟩, HBN.out.trans (hb1.mono HBN.out.size)⟩
end
end Go.Proofs.YtffcpmohanhihaaGreatDoor
