/-
  A statement whose order Go leaves open: what only reads, one call, a block made and the call's value stored into it; then the rest, one behind the other. No condition of a law's; a tool of the walks.
-/
import Derived.Test.YteplcnpmdjdlkaaGreatDoorRegBJ
namespace Go.Proofs.YteplcnpmdjdlkaaGreatDoor
open Go.Sort Go.RowKit
set_option linter.unusedVariables false
set_option linter.unusedSimpArgs false
section
variable {P : Program} {Q : Exit → Act → World → Prop}
theorem wp_region_cbox {id : Nat} {a0 : Act} {w0 : World} {l : List Oper} (ops' : Array Oper) (he : l.toArray = ops') (c : Nat) (hm : P.follows .mixedOrders = true) (hs : Region.noSelect ops' = true) (hB : ordOK ops' = true) (hcl : c + 2 < l.length) (hH : headOK ops' c = true) (hT : tailOK ops' (c + 3) = true)
    (hw1 : waits ops' (c + 2) c = true) (hw2 : waits ops' (c + 2) (c + 1) = true) (t : TypeId) (tc ta : Tmp) (hta : ta < a0.tmps.size) (htc : tc < a0.tmps.size) (hne : tc ≠ ta) (hoc : (ops'[c]?).map (fun o => (o.dst, o.guard)) = some (some tc, none)) (hoa : (ops'[c + 1]?).map (fun o => (o.op, o.dst, o.guard)) = some (.alloc t, some ta, none)) (hos : (ops'[c + 2]?).map (fun o => (o.op, o.dst, o.guard)) = some (.store t (.tmp ta) (.tmp tc), none, none))
    (zs : Array Value) (hz : (P.info? t).map (·.zero) = some (some (.agg zs))) (hi : (P.info? t).map (·.size) = some zs.size) (R : Array Value → Prop) (hR : ∀ cs, R cs → zs.size = cs.size ∧ cs.all (·.oneCell') = true)
    (h : wpQuiet P l.toArray (fun w' => ∃ p : Regrown, w' = grow (redrawn w0 p.d) p.os) (fun a => ∀ o, l.toArray[c]? = some o → (∀ w, Below w0.heap.size w0 w → gives P o a w (fun v w' => Below w.heap.size w w' ∧ ∃ cs, v = .agg cs ∧ R cs)) ∧
      ∀ cs b w, R cs → Below w0.heap.size w0 w → w0.heap.size ≤ b → w.heap[b]? = some (.cells cs t (0, 0)) → wpList P l.toArray Q (l.drop (c + 3)) ((a.put (some tc) (.agg cs)).put (some ta) (.pointer (some ⟨b, 0, none⟩))) w) (l.take c) a0) : (Code.region id l.toArray true).wp P Q a0 w0 := by
  subst he
  have hsel : ∀ (i : Nat) o, l.toArray[i]? = some o → ∀ cs b, o.op ≠ .select cs b := fun i o ho cs b => Region.noSelect_spec hs i o cs b ho
  have hsz : l.toArray.size = l.length := by simp
  obtain ⟨val, _, hval, hE⟩ := quiet_values (ops := l.toArray) (a0 := a0) (l.take c) 0 (fun _ => undef) (fun j hj => by
    have hj' : j < c := by simp at hj; omega
    simp [List.getElem?_take, hj']) h
  have hl0 : 0 + (l.take c).length = c := by simp; omega
  rw [hl0] at hE hval
  obtain ⟨oc, hoc1, hoc2⟩ := Option.map_eq_some_iff.1 hoc
  obtain ⟨oa, hoa1, hoa2⟩ := Option.map_eq_some_iff.1 hoa
  obtain ⟨os, hos1, hos2⟩ := Option.map_eq_some_iff.1 hos
  obtain ⟨hgc, hend⟩ := hE oc hoc1
  have hc2 : oc.dst = some tc := congrArg (fun x => x.1) hoc2
  have hc3 : oc.guard = none := congrArg (fun x => x.2) hoc2
  have ha1 : oa.op = .alloc t := congrArg (fun x => x.1) hoa2
  have ha2 : oa.dst = some ta := congrArg (fun x => x.2.1) hoa2
  have ha3 : oa.guard = none := congrArg (fun x => x.2.2) hoa2
  have hs1 : os.op = .store t (.tmp ta) (.tmp tc) := congrArg (fun x => x.1) hos2
  have hs2 : os.dst = none := congrArg (fun x => x.2.1) hos2
  have hs3 : os.guard = none := congrArg (fun x => x.2.2) hos2
  have hdc : dstOf l.toArray c = some tc := by simp [dstOf, hoc1, hc2]
  have hda : dstOf l.toArray (c + 1) = some ta := by simp [dstOf, hoa1, ha2]
  have hds : dstOf l.toArray (c + 2) = none := by simp [dstOf, hos1, hs2]
  have hwc : ∀ y, Region.wanted oc y = true := fun y => by
    obtain ⟨d, p, ty', ps, af, g⟩ := oc
    subst hc3; rfl
  have hwa : ∀ y, Region.wanted oa y = true := fun y => by
    obtain ⟨d, p, ty', ps, af, g⟩ := oa
    subst ha3; rfl
  have hws : ∀ y, Region.wanted os y = true := fun y => by
    obtain ⟨d, p, ty', ps, af, g⟩ := os
    subst hs3; rfl
  refine wp_region_env (c + 3) hm hs hB (by omega) hT (fun θ L W => Below w0.heap.size w0 W ∧ (∀ i, i < c → L i = true → θ i = val i) ∧ (L c = true → ∃ cs, θ c = .agg cs ∧ R cs) ∧ (L (c + 2) = true → L c = true ∧ L (c + 1) = true) ∧ (L (c + 1) = true → ∃ b row, θ (c + 1) = .pointer (some ⟨b, 0, none⟩) ∧ w0.heap.size ≤ b ∧ W.heap[b]? = some (.cells row t (0, 0)) ∧ (L (c + 2) = false → row = zs) ∧ (L (c + 2) = true → θ c = .agg row)))
    ⟨fun _ => undef, (Below.refl _ _).drew, (fun i _ h => by cases h), (fun h => by cases h), (fun h => by cases h), (fun h => by cases h)⟩ ?_ ?_
  · intro i o hin ho θ L w hC hLi hdep hlat
    obtain ⟨hCw, h1, h2, h3, h4⟩ := hC
    rcases (show i < c ∨ i = c ∨ i = c + 1 ∨ i = c + 2 by omega) with hic | rfl | rfl | rfl
    · have hl := seq_looks hB ho (θ := θ) (θ' := val) (fun j hj hw => h1 j (by omega) (hdep j hw)) a0
      obtain ⟨e1, e2⟩ := looks_congr (hsel i o ho) hl
      have hv := hval i o (Nat.zero_le _) hic ho
      have n0 : c ≠ i := by omega
      have n1 : c + 1 ≠ i := by omega
      have n2 : c + 2 ≠ i := by omega
      have hpl : plainOp o.op = true := by
        have := List.all_eq_true.1 hH i (List.mem_range.2 hic)
        unfold plainO at this
        rwa [ho] at this
      have fin : ∀ v, v = val i → Below w0.heap.size w0 w ∧ (∀ j, j < c → updL L i j = true → updV θ i v j = val j) ∧ (updL L i c = true → ∃ cs, updV θ i v c = .agg cs ∧ R cs) ∧ (updL L i (c + 2) = true → updL L i c = true ∧ updL L i (c + 1) = true) ∧ (updL L i (c + 1) = true → ∃ b row, updV θ i v (c + 1) = .pointer (some ⟨b, 0, none⟩) ∧ w0.heap.size ≤ b ∧ w.heap[b]? = some (.cells row t (0, 0)) ∧ (updL L i (c + 2) = false → row = zs) ∧ (updL L i (c + 2) = true → updV θ i v c = .agg row)) := fun v hv => by
        rw [updL_ne _ n0, updL_ne _ n1, updL_ne _ n2, updV_ne _ _ n0, updV_ne _ _ n1]
        refine ⟨hCw, fun j hj hl => ?_, h2, h3, h4⟩
        by_cases hji : j = i
        · subst hji; rw [updV_same]; exact hv
        · rw [updV_ne _ _ hji]; rw [updL_ne _ hji] at hl; exact h1 j hj hl
      rw [e2]
      split
      · rename_i hwt
        rw [if_pos hwt] at hv
        rw [gives_eq e1]
        refine gives_imp (gives_of_plain hpl (hv w (later_regrown.2 hCw))) ?_
        rintro u w' ⟨rfl, rfl⟩
        exact fin _ rfl
      · rename_i hwt
        rw [if_neg hwt] at hv
        exact fin _ hv.symm
    · obtain rfl : o = oc := Option.some.inj (ho.symm.trans hoc1)
      rw [if_pos (hwc _)]
      have hl := seq_looks hB ho (θ := θ) (θ' := val) (fun j hj hw => h1 j hj (hdep j hw)) a0
      obtain ⟨e1, e2⟩ := looks_congr (hsel _ o ho) hl
      rw [gives_eq e1]
      have hL2 : L (i + 2) = false := hlat _ hw1
      refine gives_imp (hgc w hCw) ?_
      rintro v w' ⟨hbw, cs, rfl, hcs⟩
      rw [updL_same, updV_same, updL_ne _ (show i + 1 ≠ i by omega), updL_ne _ (show i + 2 ≠ i by omega), updV_ne _ _ (show i + 1 ≠ i by omega)]
      refine ⟨hCw.trans (hbw.mono hCw.size), fun j hj hl => ?_, fun _ => ⟨cs, rfl, hcs⟩, fun h => absurd h (by rw [hL2]; exact Bool.false_ne_true), fun h => ?_⟩
      · rw [updV_ne _ _ (by omega)]; rw [updL_ne _ (by omega)] at hl; exact h1 j hj hl
      · obtain ⟨b, row, e3, hb, hr, hr0, _⟩ := h4 h
        exact ⟨b, row, e3, hb, (hbw.block b (Array.getElem?_eq_some_iff.1 hr).1).trans hr, hr0, fun h => absurd h (by rw [hL2]; exact Bool.false_ne_true)⟩
    · obtain rfl : o = oa := Option.some.inj (ho.symm.trans hoa1)
      rw [if_pos (hwa _)]
      have hL2 : L (c + 2) = false := hlat _ hw2
      refine gives_alloc t ha1 (.agg zs) hz ?_
      rw [updL_same, updV_same, updL_ne _ (show c ≠ c + 1 by omega), updL_ne _ (show c + 2 ≠ c + 1 by omega), updV_ne _ _ (show c ≠ c + 1 by omega)]
      refine ⟨hCw.alloc hCw.size _, fun j hj hl => ?_, h2, fun h => absurd h (by rw [hL2]; exact Bool.false_ne_true), fun _ => ⟨w.heap.size, zs, rfl, hCw.size, heap_alloc_new _ _, fun _ => rfl, fun h => absurd h (by rw [hL2]; exact Bool.false_ne_true)⟩⟩
      rw [updV_ne _ _ (by omega)]; rw [updL_ne _ (by omega)] at hl; exact h1 j hj hl
    · obtain rfl : o = os := Option.some.inj (ho.symm.trans hos1)
      rw [if_pos (hws _)]
      have hLc := hdep c hw1
      have hLa := hdep (c + 1) hw2
      obtain ⟨cs, ec, hcs⟩ := h2 hLc
      obtain ⟨b, row, eb, hb, hr, hr0, _⟩ := h4 hLa
      obtain rfl := hr0 hLi
      obtain ⟨hzc, h1c⟩ := hR cs hcs
      have hl := seq_looks hB ho (θ := θ) (θ' := updV (updV val c (θ c)) (c + 1) (θ (c + 1))) (fun j hj hwj => by
        rcases (show j < c ∨ j = c ∨ j = c + 1 by omega) with hjc | rfl | rfl
        · rw [updV_ne _ _ (by omega), updV_ne _ _ (by omega)]; exact h1 j hjc (hdep j hwj)
        · rw [updV_ne _ _ (by omega), updV_same]
        · rw [updV_same]) a0
      obtain ⟨e1, e2⟩ := looks_congr (hsel _ o ho) hl
      have e3 : seqTo l.toArray (updV (updV val c (θ c)) (c + 1) (θ (c + 1))) a0 (c + 2) = ((seqTo l.toArray val a0 c).put (some tc) (.agg cs)).put (some ta) (.pointer (some ⟨b, 0, none⟩)) := by
        show ((seqTo l.toArray _ a0 c).put (dstOf l.toArray c) (updV (updV val c (θ c)) (c + 1) (θ (c + 1)) c)).put (dstOf l.toArray (c + 1)) (updV (updV val c (θ c)) (c + 1) (θ (c + 1)) (c + 1)) = _
        rw [seqTo_congr _ val a0 c (fun j hj => by rw [updV_ne _ _ (by omega), updV_ne _ _ (by omega)]), updV_same, updV_ne _ _ (show c ≠ c + 1 by omega), updV_same, hdc, hda, ec, eb]
      rw [e3] at e1
      rw [gives_eq e1]
      have hsl : (seqTo l.toArray val a0 c).tmps.size = a0.tmps.size := seqTo_size _ _ _
      refine gives_store_row t (.tmp ta) (.tmp tc) hs1 b cs ?_ ?_ t _ hr (by rw [hi, hzc]) hzc h1c (fun v w' hg ho' hbw => ?_)
      · simp only [Act.eval, Array.getD_eq_getD_getElem?, put_slot_eq, put_size, hsl, if_pos hta]
        rfl
      · simp only [Act.eval, Array.getD_eq_getD_getElem?, put_slot_ne _ _ _ _ (show some ta ≠ some tc from fun e => hne (Option.some.inj e).symm), put_slot_eq, hsl, if_pos htc]
        rfl
      · rw [updL_same, updL_ne _ (show c ≠ c + 2 by omega), updL_ne _ (show c + 1 ≠ c + 2 by omega), updV_ne _ _ (show c ≠ c + 2 by omega), updV_ne _ _ (show c + 1 ≠ c + 2 by omega)]
        refine ⟨hCw.trans (hbw.mono hb), fun j hj hl => ?_, fun _ => ⟨cs, ec, hcs⟩, fun _ => ⟨hLc, hLa⟩, fun _ => ⟨b, cs, eb, hb, hg, (fun h => by cases h), fun _ => ec⟩⟩
        rw [updV_ne _ _ (by omega)]; rw [updL_ne _ (by omega)] at hl; exact h1 j hj hl
  · intro θ L w hC hL
    obtain ⟨hCw, h1, h2, h3, h4⟩ := hC
    have hall : ∀ j, j < c + 3 → L j = true := fun j hj => by rw [hL]; simpa using hj
    obtain ⟨b, row, eb, hb, hr, _, hrow⟩ := h4 (hall _ (by omega))
    have er := hrow (hall _ (by omega))
    obtain ⟨cs, ec, hcs⟩ := h2 (hall _ (by omega))
    obtain rfl : row = cs := by rw [er] at ec; injection ec
    have e1 : seqTo l.toArray θ a0 (c + 3) = ((seqTo l.toArray val a0 c).put (some tc) (.agg row)).put (some ta) (.pointer (some ⟨b, 0, none⟩)) := by
      show (((seqTo l.toArray θ a0 c).put (dstOf l.toArray c) (θ c)).put (dstOf l.toArray (c + 1)) (θ (c + 1))).put (dstOf l.toArray (c + 2)) (θ (c + 2)) = _
      rw [seqTo_congr θ val a0 c (fun j hj => h1 j hj (hall j (by omega))), hdc, hda, hds, er, eb]
      rfl
    rw [e1]
    exact hend row b w hcs hCw hb hr
end
end Go.Proofs.YteplcnpmdjdlkaaGreatDoor
