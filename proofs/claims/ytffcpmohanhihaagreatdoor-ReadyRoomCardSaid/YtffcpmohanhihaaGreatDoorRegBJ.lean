/-
  Statements whose order Go leaves open: what only reads, then one call of unknown value, or a block that is made and a row stored into it; then the rest, one behind the other. No condition of a law's; a tool of the walks.
-/
import Derived.Test.YtffcpmohanhihaaGreatDoorRegM
import Derived.Test.YtffcpmohanhihaaGreatDoorJ5
import Derived.Test.YtffcpmohanhihaaGreatDoorJ6
namespace Go.Proofs.YtffcpmohanhihaaGreatDoor
open Go.Sort Go.RowKit
set_option linter.unusedVariables false
set_option linter.unusedSimpArgs false
section
variable {P : Program} {ops : Array Oper} {Q : Exit → Act → World → Prop}
/-- An operation that makes no memory and calls nothing of Go's. -/
def plainOp : Op → Bool
  | .move _ | .assign _ | .pick _ _ _ | .load _ _ | .nilCheck _ | .binOp _ _ _ _ _ | .unOp _ _ _ | .convert _ _ _ | .fieldAddr _ _ _ | .field _ _ _ | .indexAddr _ _ _ | .index _ _ _ | .lookup _ _ _ _ | .extract _ _ | .build _ _ | .slice _ _ _ _ _ => true
  | .call c => (match c.callee with
    | .builtin .len => true
    | _ => false)
  | _ => false
def plainO (ops : Array Oper) (i : Nat) : Bool := match ops[i]? with
  | some o => plainOp o.op
  | none => false
theorem run_v {s : Sem Value} {w w' : World} {f : FuncId} {args : Array Value} (h : (s >>= fun x => pure (Next.value x)).run P w = .ok (.enter f args) w') : False := by
  rw [Sem.run_bind] at h
  generalize s.run P w = r at h
  cases r with
  | halt _ _ => cases h
  | ok x w1 => simp [Sem.run_pure] at h
theorem then_v {r : Result Value} {w' : World} {f : FuncId} {args : Array Value} (h : (r.andThen fun a w' => Result.ok (Next.value a) w') = .ok (.enter f args) w') : False := by
  cases r with
  | halt _ _ => cases h
  | ok x w1 => simp at h
/-- It never calls. -/
def NoEnter (P : Program) (s : Sem Next) : Prop := ∀ w w' f args, s.run P w = .ok (.enter f args) w' → False
theorem noEnter_pure (v : Value) : NoEnter P (pure (.value v)) := fun w w' f args h => by simp [Sem.run_pure] at h
theorem noEnter_bind {α : Type} {s : Sem α} {k : α → Sem Next} (hk : ∀ a, NoEnter P (k a)) : NoEnter P (s >>= k) := fun w w' f args h => by
  rw [Sem.run_bind] at h
  generalize s.run P w = r at h
  cases r with
  | halt _ _ => cases h
  | ok x w1 => exact hk x _ _ _ _ h
theorem plain_enter {o : Oper} (hp : plainOp o.op = true) {ρ : Operand → Value} {w w' : World} {f : FuncId} {args : Array Value} (h : (execOp ρ o).run P w = .ok (.enter f args) w') : False := by
  unfold execOp at h
  obtain ⟨d, op, ty, ps, af, g⟩ := o
  cases op with
  | call c =>
    obtain ⟨ce, xs, ts⟩ := c
    cases ce with
    | builtin b =>
      cases b with
      | len =>
        simp only [resolve, Sem.run_bind, Sem.run_pure, Result.andThen_ok, invoke, builtin] at h
        exact then_v h
      | _ => simp [plainOp] at hp
    | _ => simp [plainOp] at hp
  | pick c x z =>
    simp only [Sem.run_bind] at h
    generalize (asBool (ρ c)).run P w = r at h
    cases r with
    | halt _ _ => cases h
    | ok b w1 => cases b <;> simp [Sem.run_pure] at h
  | nilCheck x =>
    simp only at h
    split at h
    · cases h
    · cases h
    · cases h
    · split at h
      · cases h
      · refine (noEnter_bind (fun p => noEnter_bind fun b => ?_)) _ _ _ _ h
        intro w2 w3 f2 a2 h2
        split at h2
        · exact noEnter_bind (fun _ => noEnter_pure _) _ _ _ _ h2
        · exact noEnter_pure _ _ _ _ _ h2
      · simp [Sem.run_pure] at h
    · simp [Sem.run_pure] at h
  | move x => simp [Sem.run_pure] at h
  | assign x => simp [Sem.run_pure] at h
  | load _ _ => exact run_v h
  | binOp _ _ _ _ _ => exact run_v h
  | unOp _ _ _ => exact run_v h
  | convert _ _ _ => exact run_v h
  | fieldAddr _ _ _ => exact run_v h
  | field _ _ _ => exact run_v h
  | indexAddr _ _ _ => exact run_v h
  | index _ _ _ => exact run_v h
  | lookup _ _ _ _ => exact run_v h
  | extract _ _ => exact run_v h
  | build _ _ => exact run_v h
  | slice _ _ _ _ _ => exact run_v h
  | _ => simp [plainOp] at hp
theorem gives_of_plain {o : Oper} {a : Act} {C : World → Prop} {w : World} {v : Value} (hp : plainOp o.op = true) (h : o.quietAt P a C w v) : gives P o a w (fun u w' => u = v ∧ w' = w) := by
  unfold Oper.quietAt at h
  unfold gives
  generalize hr : (execOp a.eval o).run P w = r at *
  cases r with
  | halt x w' => exact h
  | ok nx w' =>
    cases nx with
    | value u => exact ⟨h.2, h.1⟩
    | skip => exact ⟨h.2.symm, h.1⟩
    | enter f args => exact (plain_enter hp hr).elim
    | _ => exact h.elim
/-- What is asked of the head: the first c only read. -/
def headOK (ops : Array Oper) (c : Nat) : Bool := (List.range c).all fun k => plainO ops k
/-- The worlds behind a world. -/
def Later (w0 w : World) : Prop := Below w0.heap.size w0 w
theorem later_regrown {w0 w : World} : (∃ p : Regrown, w = grow (redrawn w0 p.d) p.os) ↔ Below w0.heap.size w0 w :=
  ⟨fun ⟨p, h⟩ => h ▸ below_regrown w0 p.d p.os, regrown_of_below⟩
/-- **One call of unknown value** (operation c), ahead of it what only reads, behind it the rest in the text's order. -/
theorem wp_region_one {id : Nat} {a0 : Act} {w0 : World} {l : List Oper} (ops' : Array Oper) (he : l.toArray = ops') (c : Nat) (hm : P.follows .mixedOrders = true) (hs : Region.noSelect ops' = true) (hB : ordOK ops' = true) (hcl : c < l.length) (hH : headOK ops' c = true) (hT : tailOK ops' (c + 1) = true) (R : Value → World → Prop)
    (h : wpQuiet P l.toArray (fun w' => ∃ p : Regrown, w' = grow (redrawn w0 p.d) p.os) (fun a => ∀ o, l.toArray[c]? = some o → Region.wanted o (yielded l.toArray a.tmps) = true ∧ (∀ w, Below w0.heap.size w0 w → gives P o a w (fun v w' => Below w0.heap.size w0 w' ∧ R v w')) ∧
      ∀ v w, Below w0.heap.size w0 w → R v w → wpList P l.toArray Q (l.drop (c + 1)) (a.put o.dst v) w) (l.take c) a0) : (Code.region id l.toArray true).wp P Q a0 w0 := by
  subst he
  have hsel : ∀ (i : Nat) o, l.toArray[i]? = some o → ∀ cs b, o.op ≠ .select cs b := fun i o ho cs b => Region.noSelect_spec hs i o cs b ho
  have hsz : l.toArray.size = l.length := by simp
  obtain ⟨val, _, hval, hE⟩ := quiet_values (ops := l.toArray) (a0 := a0) (l.take c) 0 (fun _ => undef) (fun j hj => by
    have hj' : j < c := by simp at hj; omega
    simp [List.getElem?_take, hj']) h
  have hl0 : 0 + (l.take c).length = c := by simp; omega
  rw [hl0] at hE hval
  obtain ⟨oc, hoc⟩ : ∃ oc, l.toArray[c]? = some oc := ⟨_, Array.getElem?_eq_getElem (by rw [hsz]; exact hcl)⟩
  obtain ⟨hwc, hgc, hqc⟩ := hE oc hoc
  have hdst : dstOf l.toArray c = oc.dst := by simp [dstOf, hoc]
  refine wp_region_env (c + 1) hm hs hB (by omega) hT (fun θ L w => Below w0.heap.size w0 w ∧ (∀ i, i < c → L i = true → θ i = val i) ∧ (L c = true → R (θ c) w)) ⟨fun _ => undef, (Below.refl _ _).drew, (fun i _ h => by cases h), (fun h => by cases h)⟩ ?_ ?_
  · intro i o hi ho θ L w hc hLi hdep hlat
    obtain ⟨hCw, h1, h2⟩ := hc
    rcases Nat.lt_or_ge i c with hic | hic
    · have hl := seq_looks hB ho (θ := θ) (θ' := val) (fun j hj hw => h1 j (by omega) (hdep j hw)) a0
      obtain ⟨e1, e2⟩ := looks_congr (hsel i o ho) hl
      have hv := hval i o (Nat.zero_le _) hic ho
      have hne : c ≠ i := by omega
      have hpl : plainOp o.op = true := by
        have := List.all_eq_true.1 hH i (List.mem_range.2 hic)
        unfold plainO at this
        rwa [ho] at this
      have fin : ∀ v, v = val i → Below w0.heap.size w0 w ∧ (∀ j, j < c → updL L i j = true → updV θ i v j = val j) ∧ (updL L i c = true → R (updV θ i v c) w) := fun v hv => by
        refine ⟨hCw, fun j hj hl => ?_, fun hl => ?_⟩
        · by_cases hji : j = i
          · subst hji; rw [updV_same]; exact hv
          · rw [updV_ne _ _ hji]; rw [updL_ne _ hji] at hl; exact h1 j hj hl
        · rw [updL_ne _ hne] at hl
          rw [updV_ne _ _ hne]
          exact h2 hl
      rw [e2]
      split
      · rename_i hwt
        rw [if_pos hwt] at hv
        rw [gives_eq e1]
        refine gives_imp (gives_of_plain hpl (hv w (later_regrown.2 hCw))) ?_
        rintro u w' ⟨rfl, rfl⟩
        exact fin _ rfl
      · rename_i hwt
        rw [if_neg hwt] at hv
        exact fin _ hv.symm
    · obtain rfl : i = c := by omega
      obtain rfl : o = oc := Option.some.inj (ho.symm.trans hoc)
      have hl := seq_looks hB ho (θ := θ) (θ' := val) (fun j hj hw => h1 j hj (hdep j hw)) a0
      obtain ⟨e1, e2⟩ := looks_congr (hsel i o ho) hl
      rw [e2, if_pos hwc, gives_eq e1]
      refine gives_imp (hgc w hCw) ?_
      rintro u w' ⟨hw', hR⟩
      refine ⟨hw', fun j hj hl => ?_, fun hl => ?_⟩
      · rw [updV_ne _ _ (by omega)]; rw [updL_ne _ (by omega)] at hl; exact h1 j hj hl
      · rw [updV_same]; exact hR
  · intro θ L w hc hL
    obtain ⟨hCw, h1, h2⟩ := hc
    have hall : ∀ j, j < c + 1 → L j = true := fun j hj => by rw [hL]; simpa using hj
    have e1 : seqTo l.toArray θ a0 (c + 1) = (seqTo l.toArray val a0 c).put oc.dst (θ c) := by
      simp only [seqTo, hdst, seqTo_congr θ val a0 c (fun j hj => h1 j hj (hall j (by omega)))]
    rw [e1]
    exact hqc (θ c) w hCw (h2 (hall c (by omega)))
/-- **A block made and a row stored into it** (operations c, c + 1), ahead of them what only reads, behind them the rest in the text's order. -/
theorem wp_region_box {id : Nat} {a0 : Act} {w0 : World} {l : List Oper} (ops' : Array Oper) (he : l.toArray = ops') (c : Nat) (hm : P.follows .mixedOrders = true) (hs : Region.noSelect ops' = true) (hB : ordOK ops' = true) (hcl : c + 1 < l.length) (hH : headOK ops' c = true) (hT : tailOK ops' (c + 2) = true)
    (hw : waits ops' (c + 1) c = true) (t : TypeId) (ta ty : Tmp) (hta : ta < a0.tmps.size) (hne : ty ≠ ta) (hoa : (ops'[c]?).map (fun o => (o.op, o.dst, o.guard)) = some (.alloc t, some ta, none)) (hos : (ops'[c + 1]?).map (fun o => (o.op, o.dst, o.guard)) = some (.store t (.tmp ta) (.tmp ty), none, none))
    (zs : Array Value) (hz : (P.info? t).map (·.zero) = some (some (.agg zs))) (hi : (P.info? t).map (·.size) = some zs.size)
    (h : wpQuiet P l.toArray (fun w' => ∃ p : Regrown, w' = grow (redrawn w0 p.d) p.os) (fun a => ∃ cs : Array Value, a.eval (.tmp ty) = .agg cs ∧ zs.size = cs.size ∧ cs.all (·.oneCell') = true ∧
      ∀ b w, Below w0.heap.size w0 w → w0.heap.size ≤ b → w.heap[b]? = some (.cells cs t (0, 0)) → wpList P l.toArray Q (l.drop (c + 2)) (a.put (some ta) (.pointer (some ⟨b, 0, none⟩))) w) (l.take c) a0) : (Code.region id l.toArray true).wp P Q a0 w0 := by
  subst he
  have hsel : ∀ (i : Nat) o, l.toArray[i]? = some o → ∀ cs b, o.op ≠ .select cs b := fun i o ho cs b => Region.noSelect_spec hs i o cs b ho
  have hsz : l.toArray.size = l.length := by simp
  obtain ⟨val, _, hval, hE⟩ := quiet_values (ops := l.toArray) (a0 := a0) (l.take c) 0 (fun _ => undef) (fun j hj => by
    have hj' : j < c := by simp at hj; omega
    simp [List.getElem?_take, hj']) h
  have hl0 : 0 + (l.take c).length = c := by simp; omega
  rw [hl0] at hE hval
  obtain ⟨cs, hy, hzs, h1c, hend⟩ := hE
  obtain ⟨oa, hoa1, hoa2⟩ := Option.map_eq_some_iff.1 hoa
  obtain ⟨os, hos1, hos2⟩ := Option.map_eq_some_iff.1 hos
  have ha1 : oa.op = .alloc t := congrArg (fun x => x.1) hoa2
  have ha2 : oa.dst = some ta := congrArg (fun x => x.2.1) hoa2
  have ha3 : oa.guard = none := congrArg (fun x => x.2.2) hoa2
  have hs1 : os.op = .store t (.tmp ta) (.tmp ty) := congrArg (fun x => x.1) hos2
  have hs2 : os.dst = none := congrArg (fun x => x.2.1) hos2
  have hs3 : os.guard = none := congrArg (fun x => x.2.2) hos2
  have hda : dstOf l.toArray c = some ta := by simp [dstOf, hoa1, ha2]
  have hds : dstOf l.toArray (c + 1) = none := by simp [dstOf, hos1, hs2]
  have hwa : ∀ y, Region.wanted oa y = true := fun y => by
    obtain ⟨d, p, ty', ps, af, g⟩ := oa
    subst ha3; rfl
  have hws : ∀ y, Region.wanted os y = true := fun y => by
    obtain ⟨d, p, ty', ps, af, g⟩ := os
    subst hs3; rfl
  refine wp_region_env (c + 2) hm hs hB (by omega) hT (BoxC w0 [] val c c (c + 1) t zs cs) ⟨fun _ => undef, ⟨(fun i _ h => by cases h), ⟨(Below.refl _ _).drew, (fun p hp => by cases hp)⟩, (fun h => by cases h)⟩⟩ ?_ ?_
  · intro i o hin ho θ L w hC hLi hdep hlat
    have hT := hC.1
    have hCw := hC.2.1.below
    rcases Nat.lt_trichotomy i c with hic | hic | hic
    · have hl := seq_looks hB ho (θ := θ) (θ' := val) (fun j hj hw => hT j (by omega) (hdep j hw)) a0
      obtain ⟨e1, e2⟩ := looks_congr (hsel i o ho) hl
      have hv := hval i o (Nat.zero_le _) hic ho
      have hpl : plainOp o.op = true := by
        have := List.all_eq_true.1 hH i (List.mem_range.2 hic)
        unfold plainO at this
        rwa [ho] at this
      rw [e2]
      split
      · rename_i hwt
        rw [if_pos hwt] at hv
        rw [gives_eq e1]
        refine gives_imp (gives_of_plain hpl (hv w (later_regrown.2 hCw))) ?_
        rintro u w' ⟨rfl, rfl⟩
        exact hC.keep (by omega) (by omega) (fun _ => rfl) (Below.refl _ _)
      · rename_i hwt
        rw [if_neg hwt] at hv
        exact hC.keep (by omega) (by omega) (fun _ => hv.symm) (Below.refl _ _)
    · subst hic
      obtain rfl : o = oa := Option.some.inj (ho.symm.trans hoa1)
      rw [if_pos (hwa _)]
      refine gives_alloc t ha1 (.agg zs) hz ?_
      exact hC.alloc (hlat _ hw) (Nat.le_refl _) (by omega)
    · obtain rfl : i = c + 1 := by omega
      obtain rfl : o = os := Option.some.inj (ho.symm.trans hos1)
      rw [if_pos (hws _)]
      obtain ⟨b, eb, hr, hst⟩ := hC.row (hdep c hw) hLi
      have hl := seq_looks hB ho (θ := θ) (θ' := updV val c (θ c)) (fun j hj hwj => by
        rcases Nat.lt_or_ge j c with hjc | hjc
        · rw [updV_ne _ _ (by omega)]; exact hT j hjc (hdep j hwj)
        · obtain rfl : j = c := by omega
          rw [updV_same]) a0
      obtain ⟨e1, e2⟩ := looks_congr (hsel _ o ho) hl
      have e3 : seqTo l.toArray (updV val c (θ c)) a0 (c + 1) = (seqTo l.toArray val a0 c).put (some ta) (.pointer (some ⟨b, 0, none⟩)) := by
        show (seqTo l.toArray (updV val c (θ c)) a0 c).put (dstOf l.toArray c) (updV val c (θ c) c) = _
        rw [seqTo_congr (updV val c (θ c)) val a0 c (fun j hj => updV_ne _ _ (by omega)), updV_same, hda, eb]
      rw [e3] at e1
      rw [gives_eq e1]
      have hsl : ta < (seqTo l.toArray val a0 c).tmps.size := by rw [seqTo_size]; exact hta
      refine gives_store_row t (.tmp ta) (.tmp ty) hs1 b cs ?_ ?_ t zs hr (by rw [hi, hzs]) hzs h1c (fun v w' hg ho' hb => hst w' v (by omega) (by omega) hg ho' hb)
      · simp only [Act.eval, Array.getD_eq_getD_getElem?, put_slot_eq, if_pos hsl]
        rfl
      · rw [← hy]
        simp only [Act.eval, Array.getD_eq_getD_getElem?, put_slot_ne _ _ _ _ (show some ta ≠ some ty from fun e => hne (Option.some.inj e).symm)]
  · intro θ L w hC hL
    have hall : ∀ j, j < c + 2 → L j = true := fun j hj => by rw [hL]; simpa using hj
    obtain ⟨b, eb, _, hS⟩ := hC.done (hall c (by omega)) (hall (c + 1) (by omega))
    have hrow := hS.rows (b, .cells cs t (0, 0)) (by simp)
    have e1 : seqTo l.toArray θ a0 (c + 2) = (seqTo l.toArray val a0 c).put (some ta) (.pointer (some ⟨b, 0, none⟩)) := by
      simp only [seqTo, hda, hds, eb, seqTo_congr θ val a0 c (fun j hj => hC.1 j hj (hall j (by omega)))]
      rfl
    rw [e1]
    exact hend b w hS.below hrow.1 hrow.2
end
/-- A block made by the way, of which nothing older is the same. -/
theorem Boxes.newer {w0 W W' : World} {L : List (Nat × Obj)} {b : Nat} {o : Obj} (h : Boxes w0 W L) (hb : Below W.heap.size W W') (hW : W.heap.size ≤ b) (hn : W'.heap[b]? = some o) : Boxes w0 W' (L ++ [(b, o)]) := by
  have h1 := h.step hb
  have key : ∀ (k : Nat) r, (L ++ [(b, o)])[k]? = some r → (k < L.length ∧ L[k]? = some r) ∨ (k = L.length ∧ r = (b, o)) := by
    intro k r hr
    rcases Nat.lt_or_ge k L.length with hk | hk
    · rw [List.getElem?_append_left hk] at hr; exact .inl ⟨hk, hr⟩
    · rw [List.getElem?_append_right hk] at hr
      rcases Nat.eq_zero_or_pos (k - L.length) with h0 | h0
      · rw [h0] at hr; obtain rfl := Option.some.inj hr; exact .inr ⟨by omega, rfl⟩
      · rw [List.getElem?_eq_none (by simp; omega)] at hr; cases hr
  refine ⟨h1.below, fun i p hp => ?_, fun i j p q hp hq hij => ?_⟩
  · rcases key i p hp with ⟨_, hp⟩ | ⟨_, rfl⟩
    · exact h1.rows i p hp
    · exact ⟨Nat.le_trans h.below.size hW, hn⟩
  · rcases key i p hp with ⟨h2, h3⟩ | ⟨h2, h3⟩ <;> rcases key j q hq with ⟨h4, h5⟩ | ⟨h4, h5⟩
    · exact h.apart i j p q h3 h5 hij
    · subst h5; have := h.lt i h3; show p.1 ≠ b; omega
    · subst h3; have := h.lt j h5; show b ≠ q.1; omega
    · omega
end Go.Proofs.YtffcpmohanhihaaGreatDoor
