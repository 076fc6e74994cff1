/-
  A statement whose order Go leaves open, all of it only reads but one call, whose value is not the same in all worlds. No condition of a law's; a tool of the walks.
  Statements whose order Go leaves open: what only reads, then one call of unknown value, or a block that is made and a row stored into it; then the rest, one behind the other. No condition of a law's; a tool of the walks.
-/
import Derived.Test.YteplcnpmdjdlkaaGreatDoorReg
import Derived.BigQuiet
import Derived.Test.YteplcnpmdjdlkaaGreatDoorJ6
import Derived.Test.YteplcnpmdjdlkaaGreatDoorJ7
namespace Go.Proofs.YteplcnpmdjdlkaaGreatDoor
set_option linter.unusedVariables false
set_option linter.unusedSimpArgs false
section
variable {P : Program} {ops : Array Oper} {Q : Exit → Act → World → Prop}
theorem seqTo_slot (t : Tmp) (θ θ' : Nat → Value) (a0 : Act) (n : Nat) (h : ∀ j, j < n → dstOf ops j = some t → θ j = θ' j) : (seqTo ops θ a0 n).tmps[t]? = (seqTo ops θ' a0 n).tmps[t]? := by
  have e : ∀ θ, seqTo ops θ a0 n = putTo ops θ (fun _ => true) a0 n := fun θ => (putTo_all θ (fun _ => true) a0 n (fun _ _ => rfl)).symm
  rw [e, e]
  exact putTo_slot t θ θ' _ _ a0 n (fun j hj hd => ⟨rfl, fun _ => h j hj hd⟩)
theorem seq_looks (hB : ordOK ops = true) {i : Nat} {o : Oper} (ho : ops[i]? = some o) {θ θ' : Nat → Value} (h : ∀ j, j < i → waits ops i j = true → θ j = θ' j) (a0 : Act) :
    ∀ t, t ∈ o.looksAt ops → (seqTo ops θ a0 i).tmps[t]? = (seqTo ops θ' a0 i).tmps[t]? := by
  intro t ht
  have hi : i < ops.size := (Array.getElem?_eq_some_iff.1 ho).1
  refine seqTo_slot t θ θ' a0 i fun j hj hd => h j hj ?_
  obtain ⟨oj, hoj, hdj⟩ : ∃ oj, ops[j]? = some oj ∧ oj.dst = some t := by
    unfold dstOf at hd
    cases h : ops[j]? with
    | none => simp [h] at hd
    | some oj => exact ⟨oj, rfl, by simpa [h] using hd⟩
  refine (ordOK_spec hB hi (by omega)).2.2 hj ?_
  simp only [meets, hoj, ho, Bool.not_eq_true', Oper.apart, hdj]
  simp [ht]
theorem gives_eq {o : Oper} {a b : Act} {w : World} {R : Value → World → Prop} (h : execOp a.eval o = execOp b.eval o) : gives P o a w R = gives P o b w R := by
  unfold gives
  rw [h]
theorem gives_imp {o : Oper} {a : Act} {w : World} {R R' : Value → World → Prop} (h : gives P o a w R) (hR : ∀ v w', R v w' → R' v w') : gives P o a w R' := by
  unfold gives at *
  generalize (execOp a.eval o).run P w = r at *
  cases r with
  | halt x w' => exact h
  | ok nx w' =>
    cases nx with
    | value u => exact hR _ _ h
    | skip => exact hR _ _ h
    | enter f args => exact Calls.mono h (fun e w'' ⟨v, he, hv⟩ => ⟨v, he, hR _ _ hv⟩)
    | _ => exact h.elim
/-- A load only reads. -/
def loadAt (ops : Array Oper) (i : Nat) : Bool := match ops[i]? with
  | some o => (match o.op with | .load .. => true | _ => false)
  | none => false
theorem gives_of_load {o : Oper} {a : Act} {C : World → Prop} {w : World} {v : Value} (hl : (match o.op with | .load .. => true | _ => false) = true) (h : o.quietAt P a C w v) : gives P o a w (fun u w' => u = v ∧ w' = w) := by
  obtain ⟨t, x, ho⟩ : ∃ t x, o.op = .load t x := by
    split at hl
    · rename_i t x ho; exact ⟨t, x, ho⟩
    · cases hl
  unfold Oper.quietAt execOp at h
  unfold gives execOp
  simp only [ho, Sem.run_bind] at h ⊢
  generalize (Instr.loadAt t (a.eval x)).run P w = r at *
  cases r with
  | halt x w' => exact h
  | ok nx w' =>
    simp only [Result.andThen_ok, Sem.run_pure, Oper.quietUpon] at h ⊢
    exact ⟨h.2, h.1⟩
/-- What is asked of the one call: all behind it in the text wait for it; what it does not wait for are loads. -/
def midOK (ops : Array Oper) (c : Nat) : Bool := (List.range ops.size).all fun k => (decide (k ≤ c) || waits ops k c) && (decide (c ≤ k) || waits ops c k || loadAt ops k)
theorem tail_all (ops : Array Oper) : tailOK ops ops.size = true := by
  unfold tailOK
  rw [List.all_eq_true]
  intro k hk
  rw [decide_eq_true (List.mem_range.1 hk)]
  rfl
theorem wp_region_mid {id : Nat} {a0 : Act} {w0 : World} {l : List Oper} (ops' : Array Oper) (he : l.toArray = ops') (c : Nat) (hm : P.follows .mixedOrders = true) (hs : Region.noSelect ops' = true) (hB : ordOK ops' = true) (hcl : c < l.length) (hM : midOK ops' c = true) (C : World → Prop) (R : Value → World → Prop)
    (hC : C { w0 with drawn := w0.drawn + 1 })
    (h : wpQuiet P l.toArray C (fun a => ∀ o, l.toArray[c]? = some o → Region.wanted o (yielded l.toArray a.tmps) = true ∧ (∀ w, C w → gives P o a w (fun v w' => C w' ∧ R v w')) ∧
      ∀ v, (∃ w, C w ∧ R v w) → wpQuiet P l.toArray (fun w => C w ∧ R v w) (fun a => ∀ w, C w → R v w → Q .normal a w) (l.drop (c + 1)) (a.put o.dst v)) (l.take c) a0) : (Code.region id l.toArray true).wp P Q a0 w0 := by
  subst he
  have hsel : ∀ (i : Nat) o, l.toArray[i]? = some o → ∀ cs b, o.op ≠ .select cs b := fun i o ho cs b => Region.noSelect_spec hs i o cs b ho
  have hsz : l.toArray.size = l.length := by simp
  obtain ⟨val, _, hval, hE⟩ := quiet_values (ops := l.toArray) (a0 := a0) (l.take c) 0 (fun _ => undef) (fun j hj => by
    have hj' : j < c := by simp at hj; omega
    simp [List.getElem?_take, hj']) h
  have hl0 : 0 + (l.take c).length = c := by simp; omega
  rw [hl0] at hE hval
  obtain ⟨oc, hoc⟩ : ∃ oc, l.toArray[c]? = some oc := ⟨_, Array.getElem?_eq_getElem (by rw [hsz]; exact hcl)⟩
  obtain ⟨hwc, hgc, hqc⟩ := hE oc hoc
  have hdst : dstOf l.toArray c = oc.dst := by simp [dstOf, hoc]
  have hex : ∀ v, ∃ θ : Nat → Value, (∃ w, C w ∧ R v w) → (∀ j, j < c + 1 → θ j = updV val c v j) ∧ (∀ i o, c + 1 ≤ i → i < l.length → l.toArray[i]? = some o → if Region.wanted o (yielded l.toArray (seqTo l.toArray θ a0 i).tmps) then ∀ w, (C w ∧ R v w) → o.quietAt P (seqTo l.toArray θ a0 i) (fun w => C w ∧ R v w) w (θ i) else θ i = undef) ∧
      (∀ w, C w → R v w → Q .normal (seqTo l.toArray θ a0 l.length) w) := fun v => by
    by_cases hv : ∃ w, C w ∧ R v w
    · have e1 : seqTo l.toArray (updV val c v) a0 (c + 1) = (seqTo l.toArray val a0 c).put oc.dst v := by
        simp only [seqTo, updV_same, hdst, seqTo_congr (updV val c v) val a0 c (fun j hj => updV_ne _ _ (by omega))]
      have hq := hqc v hv
      rw [← e1] at hq
      obtain ⟨θ, h1, h2, h3⟩ := quiet_values (ops := l.toArray) (a0 := a0) (l.drop (c + 1)) (c + 1) (updV val c v) (fun j hj => by simp) hq
      have hl1 : c + 1 + (l.drop (c + 1)).length = l.length := by simp; omega
      rw [hl1] at h2 h3
      exact ⟨θ, fun _ => ⟨h1, h2, h3⟩⟩
    · exact ⟨fun _ => undef, fun h => absurd h hv⟩
  have hF : ∃ F : Value → Nat → Value, ∀ v, (∃ w, C w ∧ R v w) → (∀ j, j < c + 1 → F v j = updV val c v j) ∧ (∀ i o, c + 1 ≤ i → i < l.length → l.toArray[i]? = some o → if Region.wanted o (yielded l.toArray (seqTo l.toArray (F v) a0 i).tmps) then ∀ w, (C w ∧ R v w) → o.quietAt P (seqTo l.toArray (F v) a0 i) (fun w => C w ∧ R v w) w (F v i) else F v i = undef) ∧
      (∀ w, C w → R v w → Q .normal (seqTo l.toArray (F v) a0 l.length) w) := ⟨fun v => Classical.choose (hex v), fun v => Classical.choose_spec (hex v)⟩
  obtain ⟨F, hF⟩ := hF
  have hmid : ∀ k, k < l.length → (k ≤ c ∨ waits l.toArray k c = true) ∧ (c ≤ k ∨ waits l.toArray c k = true ∨ loadAt l.toArray k = true) := fun k hk => by
    have := List.all_eq_true.1 hM k (List.mem_range.2 (by rw [hsz]; exact hk))
    simp only [Bool.and_eq_true, Bool.or_eq_true, decide_eq_true_eq] at this
    exact ⟨this.1, by rcases this.2 with (h | h) | h <;> simp [h]⟩
  refine wp_region_env l.toArray.size hm hs hB (Nat.le_refl _) (tail_all _) (fun θ L w => C w ∧ (∀ i, i < c → L i = true → θ i = val i) ∧ (L c = true → R (θ c) w ∧ ∀ i, c < i → L i = true → θ i = F (θ c) i) ∧ (∀ i, c < i → L i = true → L c = true)) ⟨fun _ => undef, hC, (fun i _ h => by cases h), (fun h => by cases h), (fun i _ h => by cases h)⟩ ?_ ?_
  · intro i o hi ho θ L w hc hLi hdep hlat
    obtain ⟨hCw, h1, h2, h3⟩ := hc
    rw [hsz] at hi
    rcases Nat.lt_trichotomy i c with hic | hic | hic
    · -- ahead of the call
      have hl := seq_looks hB ho (θ := θ) (θ' := val) (fun j hj hw => h1 j (by omega) (hdep j hw)) a0
      obtain ⟨e1, e2⟩ := looks_congr (hsel i o ho) hl
      have hv := hval i o (Nat.zero_le _) hic ho
      have hne : c ≠ i := by omega
      rw [e2]
      split
      · rename_i hwt
        rw [if_pos hwt] at hv
        rw [gives_eq e1]
        cases hLc : L c with
        | false =>
          refine gives_imp (gives_of_quietAt hCw (hv w hCw)) ?_
          rintro u w' ⟨rfl, hw'⟩
          refine ⟨hw', fun j hj hl => ?_, fun hl => ?_, fun j hj hl => ?_⟩
          · by_cases hji : j = i
            · subst hji; exact updV_same ..
            · rw [updV_ne _ _ hji]; rw [updL_ne _ hji] at hl; exact h1 j hj hl
          · rw [updL_ne _ hne, hLc] at hl; cases hl
          · rw [updL_ne _ (by omega)] at hl
            rw [updL_ne _ hne]
            exact h3 j hj hl
        | true =>
          have hld : loadAt l.toArray i = true := by
            rcases (hmid i hi).2 with h | h | h
            · omega
            · have := hlat c h; rw [hLc] at this; cases this
            · exact h
          have hld' : (match o.op with | .load .. => true | _ => false) = true := by unfold loadAt at hld; rw [ho] at hld; exact hld
          refine gives_imp (gives_of_load hld' (hv w hCw)) ?_
          rintro u w' ⟨rfl, rfl⟩
          obtain ⟨h2a, h2b⟩ := h2 hLc
          refine ⟨hCw, fun j hj hl => ?_, fun hl => ?_, fun j hj hl => ?_⟩
          · by_cases hji : j = i
            · subst hji; exact updV_same ..
            · rw [updV_ne _ _ hji]; rw [updL_ne _ hji] at hl; exact h1 j hj hl
          · rw [updV_ne _ _ hne]
            refine ⟨h2a, fun j hj hl => ?_⟩
            rw [updV_ne _ _ (by omega)]
            rw [updL_ne _ (by omega)] at hl
            exact h2b j hj hl
          · rw [updL_ne _ hne]; exact hLc
      · rename_i hwt
        rw [if_neg hwt] at hv
        refine ⟨hCw, fun j hj hl => ?_, fun hl => ?_, fun j hj hl => ?_⟩
        · by_cases hji : j = i
          · subst hji; rw [updV_same]; exact hv.symm
          · rw [updV_ne _ _ hji]; rw [updL_ne _ hji] at hl; exact h1 j hj hl
        · rw [updL_ne _ hne] at hl
          obtain ⟨h2a, h2b⟩ := h2 hl
          rw [updV_ne _ _ hne]
          refine ⟨h2a, fun j hj hl => ?_⟩
          rw [updV_ne _ _ (by omega)]
          rw [updL_ne _ (by omega)] at hl
          exact h2b j hj hl
        · rw [updL_ne _ (by omega)] at hl
          rw [updL_ne _ hne]
          exact h3 j hj hl
    · subst hic
      obtain rfl : o = oc := Option.some.inj (ho.symm.trans hoc)
      have hl := seq_looks hB ho (θ := θ) (θ' := val) (fun j hj hw => h1 j hj (hdep j hw)) a0
      obtain ⟨e1, e2⟩ := looks_congr (hsel i o ho) hl
      rw [e2, if_pos hwc, gives_eq e1]
      refine gives_imp (hgc w hCw) ?_
      rintro u w' ⟨hw', hR⟩
      refine ⟨hw', fun j hj hl => ?_, fun hl => ?_, fun j hj hl => updL_same ..⟩
      · rw [updV_ne _ _ (by omega)]; rw [updL_ne _ (by omega)] at hl; exact h1 j hj hl
      · rw [updV_same]
        refine ⟨hR, fun j hj hl => ?_⟩
        rw [updL_ne _ (by omega)] at hl
        have := h3 j hj hl
        rw [hLi] at this
        cases this
    · have hLc : L c = true := by
        rcases (hmid i hi).1 with h | h
        · omega
        · exact hdep c h
      obtain ⟨h2a, h2b⟩ := h2 hLc
      obtain ⟨f1, f2, f3⟩ := hF (θ c) ⟨w, hCw, h2a⟩
      have hl := seq_looks hB ho (θ := θ) (θ' := F (θ c)) (fun j hj hw => by
        have hLj := hdep j hw
        rcases Nat.lt_trichotomy j c with hjc | hjc | hjc
        · rw [h1 j hjc hLj, f1 j (by omega), updV_ne _ _ (by omega)]
        · subst hjc; rw [f1 j (by omega), updV_same]
        · exact h2b j hjc hLj) a0
      obtain ⟨e1, e2⟩ := looks_congr (hsel i o ho) hl
      have hv := f2 i o (by omega) hi ho
      have hne : c ≠ i := by omega
      rw [e2]
      split
      · rename_i hwt
        rw [if_pos hwt] at hv
        rw [gives_eq e1]
        refine gives_imp (gives_of_quietAt (C := fun w => C w ∧ R (θ c) w) ⟨hCw, h2a⟩ (hv w ⟨hCw, h2a⟩)) ?_
        rintro u w' ⟨rfl, hw', hR'⟩
        refine ⟨hw', fun j hj hl => ?_, fun hl => ?_, fun j hj hl => ?_⟩
        · rw [updV_ne _ _ (by omega)]; rw [updL_ne _ (by omega)] at hl; exact h1 j hj hl
        · rw [updV_ne _ _ hne]
          refine ⟨hR', fun j hj hl => ?_⟩
          by_cases hji : j = i
          · subst hji; exact updV_same ..
          · rw [updV_ne _ _ hji]; rw [updL_ne _ hji] at hl; exact h2b j hj hl
        · rw [updL_ne _ hne]; exact hLc
      · rename_i hwt
        rw [if_neg hwt] at hv
        refine ⟨hCw, fun j hj hl => ?_, fun hl => ?_, fun j hj hl => ?_⟩
        · rw [updV_ne _ _ (by omega)]; rw [updL_ne _ (by omega)] at hl; exact h1 j hj hl
        · rw [updV_ne _ _ hne]
          refine ⟨h2a, fun j hj hl => ?_⟩
          by_cases hji : j = i
          · subst hji; rw [updV_same]; exact hv.symm
          · rw [updV_ne _ _ hji]; rw [updL_ne _ hji] at hl; exact h2b j hj hl
        · rw [updL_ne _ hne]; exact hLc
  · intro θ L w hc hL
    obtain ⟨hCw, h1, h2, h3⟩ := hc
    have hall : ∀ j, j < l.length → L j = true := fun j hj => by rw [hL]; simpa using hj
    obtain ⟨h2a, h2b⟩ := h2 (hall c hcl)
    obtain ⟨f1, f2, f3⟩ := hF (θ c) ⟨w, hCw, h2a⟩
    have e : seqTo l.toArray θ a0 l.toArray.size = seqTo l.toArray (F (θ c)) a0 l.length := by
      rw [hsz]
      refine seqTo_congr _ _ _ _ fun j hj => ?_
      rcases Nat.lt_trichotomy j c with hjc | hjc | hjc
      · rw [h1 j hjc (hall j hj), f1 j (by omega), updV_ne _ _ (by omega)]
      · subst hjc; rw [f1 j (by omega), updV_same]
      · exact h2b j hjc (hall j hj)
    rw [e]
    have hd : l.toArray.toList.drop l.toArray.size = [] := by simp
    rw [hd]
    exact f3 w hCw h2a
/-- In such a region: a call, told in all worlds of the class. -/
theorem q_call {C : World → Prop} {E : Act → Prop} {rest : List Oper} {o : Oper} {a : Act} (hwt : Region.wanted o (yielded ops a.tmps) = true) {f : FuncId} {fn : Func} {c : Code} (xs : Array Operand) (ts : Array TypeId) (ho : o.op = .call { callee := .value (.func f), args := xs, argTypes := ts }) (hf : P.funcs[f]? = some fn) (hn : (fn.name == "runtime.NumGoroutine") = false) (hb : fn.body = some c) (vs : Array Value) (hx : xs.map a.eval = vs) {v : Value}
    (hc : ∀ w, C w → Calls P f vs w fun e w' => e = .returned v ∧ C w') (h : wpQuiet P ops C E rest (a.put o.dst v)) : wpQuiet P ops C E (o :: rest) a :=
  BigFrame.wpQuiet_want hwt fun K hK => ⟨v, fun w hw => by
    have he : (execOp a.eval o).run P w = .ok (.enter f vs) w := by
      have h1 : fn.name ≠ "runtime.NumGoroutine" := by simpa using hn
      unfold execOp
      simp only [ho, resolve, hx, Act.eval, Deferred.ofValue, Sem.run_bind, Sem.run_pure, Result.andThen_ok]
      simp [invoke, callFunc, hf, h1, hb, mark]
    unfold Oper.quietAt
    rw [he]
    exact ⟨rfl, hc w hw⟩, hK _ h⟩
/-- .. an operation that looks at no memory. -/
theorem q_pure {C : World → Prop} {E : Act → Prop} {rest : List Oper} {o : Oper} {a : Act} (hwt : Region.wanted o (yielded ops a.tmps) = true) (v : Value) (hr : ∀ w, (execOp a.eval o).run P w = .ok (.value v) w) (h : wpQuiet P ops C E rest (a.put o.dst v)) : wpQuiet P ops C E (o :: rest) a :=
  BigFrame.wpQuiet_want hwt fun K hK => ⟨v, fun w hw => by
    unfold Oper.quietAt
    rw [hr w]
    exact ⟨rfl, rfl⟩, hK _ h⟩
theorem q_pick {C : World → Prop} {E : Act → Prop} {rest : List Oper} {o : Oper} {a : Act} (hwt : Region.wanted o (yielded ops a.tmps) = true) (c x z : Operand) (ho : o.op = .pick c x z) (b : Bool) (hc : a.eval c = .bool b) {v : Value} (hv : (if b then a.eval x else a.eval z) = v) (h : wpQuiet P ops C E rest (a.put o.dst v)) : wpQuiet P ops C E (o :: rest) a :=
  q_pure hwt v (fun w => by unfold execOp; simp only [ho, hc, asBool, Sem.run_bind, Sem.run_pure, Result.andThen_ok, hv]) h
theorem q_move {C : World → Prop} {E : Act → Prop} {rest : List Oper} {o : Oper} {a : Act} (hwt : Region.wanted o (yielded ops a.tmps) = true) (x : Operand) (ho : o.op = .move x ∨ o.op = .assign x) {v : Value} (hv : a.eval x = v) (h : wpQuiet P ops C E rest (a.put o.dst v)) : wpQuiet P ops C E (o :: rest) a :=
  q_pure hwt v (fun w => by unfold execOp; rcases ho with ho | ho <;> simp only [ho, hv, Sem.run_pure]) h
theorem q_not {C : World → Prop} {E : Act → Prop} {rest : List Oper} {o : Oper} {a : Act} (hwt : Region.wanted o (yielded ops a.tmps) = true) (t : TypeId) (x : Operand) (ho : o.op = .unOp .not t x) (b : Bool) (hc : a.eval x = .bool b) (h : wpQuiet P ops C E rest (a.put o.dst (.bool !b))) : wpQuiet P ops C E (o :: rest) a :=
  q_pure hwt _ (fun w => by unfold execOp; simp only [ho, hc]; rfl) h
end
end Go.Proofs.YteplcnpmdjdlkaaGreatDoor
namespace Go.Proofs.YteplcnpmdjdlkaaGreatDoor
open Go.Sort Go.RowKit
set_option linter.unusedVariables false
set_option linter.unusedSimpArgs false
section
variable {P : Program} {ops : Array Oper} {Q : Exit → Act → World → Prop}
/-- An operation that makes no memory and calls nothing of Go's. -/
def plainOp : Op → Bool
  | .move _ | .assign _ | .pick _ _ _ | .load _ _ | .nilCheck _ | .binOp _ _ _ _ _ | .unOp _ _ _ | .convert _ _ _ | .fieldAddr _ _ _ | .field _ _ _ | .indexAddr _ _ _ | .index _ _ _ | .lookup _ _ _ _ | .extract _ _ | .build _ _ | .slice _ _ _ _ _ => true
  | .call c => (match c.callee with
    | .builtin .len => true
    | _ => false)
  | _ => false
def plainO (ops : Array Oper) (i : Nat) : Bool := match ops[i]? with
  | some o => plainOp o.op
  | none => false
theorem run_v {s : Sem Value} {w w' : World} {f : FuncId} {args : Array Value} (h : (s >>= fun x => pure (Next.value x)).run P w = .ok (.enter f args) w') : False := by
  rw [Sem.run_bind] at h
  generalize s.run P w = r at h
  cases r with
  | halt _ _ => cases h
  | ok x w1 => simp [Sem.run_pure] at h
theorem then_v {r : Result Value} {w' : World} {f : FuncId} {args : Array Value} (h : (r.andThen fun a w' => Result.ok (Next.value a) w') = .ok (.enter f args) w') : False := by
  cases r with
  | halt _ _ => cases h
  | ok x w1 => simp at h
/-- It never calls. -/
def NoEnter (P : Program) (s : Sem Next) : Prop := ∀ w w' f args, s.run P w = .ok (.enter f args) w' → False
theorem noEnter_pure (v : Value) : NoEnter P (pure (.value v)) := fun w w' f args h => by simp [Sem.run_pure] at h
theorem noEnter_bind {α : Type} {s : Sem α} {k : α → Sem Next} (hk : ∀ a, NoEnter P (k a)) : NoEnter P (s >>= k) := fun w w' f args h => by
  rw [Sem.run_bind] at h
  generalize s.run P w = r at h
  cases r with
  | halt _ _ => cases h
  | ok x w1 => exact hk x _ _ _ _ h
theorem plain_enter {o : Oper} (hp : plainOp o.op = true) {ρ : Operand → Value} {w w' : World} {f : FuncId} {args : Array Value} (h : (execOp ρ o).run P w = .ok (.enter f args) w') : False := by
  unfold execOp at h
  obtain ⟨d, op, ty, ps, af, g⟩ := o
  cases op with
  | call c =>
    obtain ⟨ce, xs, ts⟩ := c
    cases ce with
    | builtin b =>
      cases b with
      | len =>
        simp only [resolve, Sem.run_bind, Sem.run_pure, Result.andThen_ok, invoke, builtin] at h
        exact then_v h
      | _ => simp [plainOp] at hp
    | _ => simp [plainOp] at hp
  | pick c x z =>
    simp only [Sem.run_bind] at h
    generalize (asBool (ρ c)).run P w = r at h
    cases r with
    | halt _ _ => cases h
    | ok b w1 => cases b <;> simp [Sem.run_pure] at h
  | nilCheck x =>
    simp only at h
    split at h
    · cases h
    · cases h
    · cases h
    · split at h
      · cases h
      · refine (noEnter_bind (fun p => noEnter_bind fun b => ?_)) _ _ _ _ h
        intro w2 w3 f2 a2 h2
        split at h2
        · exact noEnter_bind (fun _ => noEnter_pure _) _ _ _ _ h2
        · exact noEnter_pure _ _ _ _ _ h2
      · simp [Sem.run_pure] at h
    · simp [Sem.run_pure] at h
  | move x => simp [Sem.run_pure] at h
  | assign x => simp [Sem.run_pure] at h
  | load _ _ => exact run_v h
  | binOp _ _ _ _ _ => exact run_v h
  | unOp _ _ _ => exact run_v h
  | convert _ _ _ => exact run_v h
  | fieldAddr _ _ _ => exact run_v h
  | field _ _ _ => exact run_v h
  | indexAddr _ _ _ => exact run_v h
  | index _ _ _ => exact run_v h
  | lookup _ _ _ _ => exact run_v h
  | extract _ _ => exact run_v h
  | build _ _ => exact run_v h
  | slice _ _ _ _ _ => exact run_v h
  | _ => simp [plainOp] at hp
theorem gives_of_plain {o : Oper} {a : Act} {C : World → Prop} {w : World} {v : Value} (hp : plainOp o.op = true) (h : o.quietAt P a C w v) : gives P o a w (fun u w' => u = v ∧ w' = w) := by
  unfold Oper.quietAt at h
  unfold gives
  generalize hr : (execOp a.eval o).run P w = r at *
  cases r with
  | halt x w' => exact h
  | ok nx w' =>
    cases nx with
    | value u => exact ⟨h.2, h.1⟩
    | skip => exact ⟨h.2.symm, h.1⟩
    | enter f args => exact (plain_enter hp hr).elim
    | _ => exact h.elim
/-- What is asked of the head: the first c only read. -/
def headOK (ops : Array Oper) (c : Nat) : Bool := (List.range c).all fun k => plainO ops k
/-- The worlds behind a world. -/
def Later (w0 w : World) : Prop := Below w0.heap.size w0 w
theorem later_regrown {w0 w : World} : (∃ p : Regrown, w = grow (redrawn w0 p.d) p.os) ↔ Below w0.heap.size w0 w :=
  ⟨fun ⟨p, h⟩ => h ▸ below_regrown w0 p.d p.os, regrown_of_below⟩
/-- **One call of unknown value** (operation c), ahead of it what only reads, behind it the rest in the text's order. -/
theorem wp_region_one {id : Nat} {a0 : Act} {w0 : World} {l : List Oper} (ops' : Array Oper) (he : l.toArray = ops') (c : Nat) (hm : P.follows .mixedOrders = true) (hs : Region.noSelect ops' = true) (hB : ordOK ops' = true) (hcl : c < l.length) (hH : headOK ops' c = true) (hT : tailOK ops' (c + 1) = true) (R : Value → World → Prop)
    (h : wpQuiet P l.toArray (fun w' => ∃ p : Regrown, w' = grow (redrawn w0 p.d) p.os) (fun a => ∀ o, l.toArray[c]? = some o → Region.wanted o (yielded l.toArray a.tmps) = true ∧ (∀ w, Below w0.heap.size w0 w → gives P o a w (fun v w' => Below w0.heap.size w0 w' ∧ R v w')) ∧
      ∀ v w, Below w0.heap.size w0 w → R v w → wpList P l.toArray Q (l.drop (c + 1)) (a.put o.dst v) w) (l.take c) a0) : (Code.region id l.toArray true).wp P Q a0 w0 := by
  subst he
  have hsel : ∀ (i : Nat) o, l.toArray[i]? = some o → ∀ cs b, o.op ≠ .select cs b := fun i o ho cs b => Region.noSelect_spec hs i o cs b ho
  have hsz : l.toArray.size = l.length := by simp
  obtain ⟨val, _, hval, hE⟩ := quiet_values (ops := l.toArray) (a0 := a0) (l.take c) 0 (fun _ => undef) (fun j hj => by
    have hj' : j < c := by simp at hj; omega
    simp [List.getElem?_take, hj']) h
  have hl0 : 0 + (l.take c).length = c := by simp; omega
  rw [hl0] at hE hval
  obtain ⟨oc, hoc⟩ : ∃ oc, l.toArray[c]? = some oc := ⟨_, Array.getElem?_eq_getElem (by rw [hsz]; exact hcl)⟩
  obtain ⟨hwc, hgc, hqc⟩ := hE oc hoc
  have hdst : dstOf l.toArray c = oc.dst := by simp [dstOf, hoc]
  refine wp_region_env (c + 1) hm hs hB (by omega) hT (fun θ L w => Below w0.heap.size w0 w ∧ (∀ i, i < c → L i = true → θ i = val i) ∧ (L c = true → R (θ c) w)) ⟨fun _ => undef, (Below.refl _ _).drew, (fun i _ h => by cases h), (fun h => by cases h)⟩ ?_ ?_
  · intro i o hi ho θ L w hc hLi hdep hlat
    obtain ⟨hCw, h1, h2⟩ := hc
    rcases Nat.lt_or_ge i c with hic | hic
    · have hl := seq_looks hB ho (θ := θ) (θ' := val) (fun j hj hw => h1 j (by omega) (hdep j hw)) a0
      obtain ⟨e1, e2⟩ := looks_congr (hsel i o ho) hl
      have hv := hval i o (Nat.zero_le _) hic ho
      have hne : c ≠ i := by omega
      have hpl : plainOp o.op = true := by
        have := List.all_eq_true.1 hH i (List.mem_range.2 hic)
        unfold plainO at this
        rwa [ho] at this
      have fin : ∀ v, v = val i → Below w0.heap.size w0 w ∧ (∀ j, j < c → updL L i j = true → updV θ i v j = val j) ∧ (updL L i c = true → R (updV θ i v c) w) := fun v hv => by
        refine ⟨hCw, fun j hj hl => ?_, fun hl => ?_⟩
        · by_cases hji : j = i
          · subst hji; rw [updV_same]; exact hv
          · rw [updV_ne _ _ hji]; rw [updL_ne _ hji] at hl; exact h1 j hj hl
        · rw [updL_ne _ hne] at hl
          rw [updV_ne _ _ hne]
          exact h2 hl
      rw [e2]
      split
      · rename_i hwt
        rw [if_pos hwt] at hv
        rw [gives_eq e1]
        refine gives_imp (gives_of_plain hpl (hv w (later_regrown.2 hCw))) ?_
        rintro u w' ⟨rfl, rfl⟩
        exact fin _ rfl
      · rename_i hwt
        rw [if_neg hwt] at hv
        exact fin _ hv.symm
    · obtain rfl : i = c := by omega
      obtain rfl : o = oc := Option.some.inj (ho.symm.trans hoc)
      have hl := seq_looks hB ho (θ := θ) (θ' := val) (fun j hj hw => h1 j hj (hdep j hw)) a0
      obtain ⟨e1, e2⟩ := looks_congr (hsel i o ho) hl
      rw [e2, if_pos hwc, gives_eq e1]
      refine gives_imp (hgc w hCw) ?_
      rintro u w' ⟨hw', hR⟩
      refine ⟨hw', fun j hj hl => ?_, fun hl => ?_⟩
      · rw [updV_ne _ _ (by omega)]; rw [updL_ne _ (by omega)] at hl; exact h1 j hj hl
      · rw [updV_same]; exact hR
  · intro θ L w hc hL
    obtain ⟨hCw, h1, h2⟩ := hc
    have hall : ∀ j, j < c + 1 → L j = true := fun j hj => by rw [hL]; simpa using hj
    have e1 : seqTo l.toArray θ a0 (c + 1) = (seqTo l.toArray val a0 c).put oc.dst (θ c) := by
      simp only [seqTo, hdst, seqTo_congr θ val a0 c (fun j hj => h1 j hj (hall j (by omega)))]
    rw [e1]
    exact hqc (θ c) w hCw (h2 (hall c (by omega)))
/-- **A block made and a row stored into it** (operations c, c + 1), ahead of them what only reads, behind them the rest in the text's order. -/
theorem wp_region_box {id : Nat} {a0 : Act} {w0 : World} {l : List Oper} (ops' : Array Oper) (he : l.toArray = ops') (c : Nat) (hm : P.follows .mixedOrders = true) (hs : Region.noSelect ops' = true) (hB : ordOK ops' = true) (hcl : c + 1 < l.length) (hH : headOK ops' c = true) (hT : tailOK ops' (c + 2) = true)
    (hw : waits ops' (c + 1) c = true) (t : TypeId) (ta ty : Tmp) (hta : ta < a0.tmps.size) (hne : ty ≠ ta) (hoa : (ops'[c]?).map (fun o => (o.op, o.dst, o.guard)) = some (.alloc t, some ta, none)) (hos : (ops'[c + 1]?).map (fun o => (o.op, o.dst, o.guard)) = some (.store t (.tmp ta) (.tmp ty), none, none))
    (zs : Array Value) (hz : (P.info? t).map (·.zero) = some (some (.agg zs))) (hi : (P.info? t).map (·.size) = some zs.size)
    (h : wpQuiet P l.toArray (fun w' => ∃ p : Regrown, w' = grow (redrawn w0 p.d) p.os) (fun a => ∃ cs : Array Value, a.eval (.tmp ty) = .agg cs ∧ zs.size = cs.size ∧ cs.all (·.oneCell') = true ∧
      ∀ b w, Below w0.heap.size w0 w → w0.heap.size ≤ b → w.heap[b]? = some (.cells cs t (0, 0)) → wpList P l.toArray Q (l.drop (c + 2)) (a.put (some ta) (.pointer (some ⟨b, 0, none⟩))) w) (l.take c) a0) : (Code.region id l.toArray true).wp P Q a0 w0 := by
  subst he
  have hsel : ∀ (i : Nat) o, l.toArray[i]? = some o → ∀ cs b, o.op ≠ .select cs b := fun i o ho cs b => Region.noSelect_spec hs i o cs b ho
  have hsz : l.toArray.size = l.length := by simp
  obtain ⟨val, _, hval, hE⟩ := quiet_values (ops := l.toArray) (a0 := a0) (l.take c) 0 (fun _ => undef) (fun j hj => by
    have hj' : j < c := by simp at hj; omega
    simp [List.getElem?_take, hj']) h
  have hl0 : 0 + (l.take c).length = c := by simp; omega
  rw [hl0] at hE hval
  obtain ⟨cs, hy, hzs, h1c, hend⟩ := hE
  obtain ⟨oa, hoa1, hoa2⟩ := Option.map_eq_some_iff.1 hoa
  obtain ⟨os, hos1, hos2⟩ := Option.map_eq_some_iff.1 hos
  have ha1 : oa.op = .alloc t := congrArg (fun x => x.1) hoa2
  have ha2 : oa.dst = some ta := congrArg (fun x => x.2.1) hoa2
  have ha3 : oa.guard = none := congrArg (fun x => x.2.2) hoa2
  have hs1 : os.op = .store t (.tmp ta) (.tmp ty) := congrArg (fun x => x.1) hos2
  have hs2 : os.dst = none := congrArg (fun x => x.2.1) hos2
  have hs3 : os.guard = none := congrArg (fun x => x.2.2) hos2
  have hda : dstOf l.toArray c = some ta := by simp [dstOf, hoa1, ha2]
  have hds : dstOf l.toArray (c + 1) = none := by simp [dstOf, hos1, hs2]
  have hwa : ∀ y, Region.wanted oa y = true := fun y => by
    obtain ⟨d, p, ty', ps, af, g⟩ := oa
    subst ha3; rfl
  have hws : ∀ y, Region.wanted os y = true := fun y => by
    obtain ⟨d, p, ty', ps, af, g⟩ := os
    subst hs3; rfl
  refine wp_region_env (c + 2) hm hs hB (by omega) hT (BoxC w0 [] val c c (c + 1) t zs cs) ⟨fun _ => undef, ⟨(fun i _ h => by cases h), ⟨(Below.refl _ _).drew, (fun p hp => by cases hp)⟩, (fun h => by cases h)⟩⟩ ?_ ?_
  · intro i o hin ho θ L w hC hLi hdep hlat
    have hT := hC.1
    have hCw := hC.2.1.below
    rcases Nat.lt_trichotomy i c with hic | hic | hic
    · have hl := seq_looks hB ho (θ := θ) (θ' := val) (fun j hj hw => hT j (by omega) (hdep j hw)) a0
      obtain ⟨e1, e2⟩ := looks_congr (hsel i o ho) hl
      have hv := hval i o (Nat.zero_le _) hic ho
      have hpl : plainOp o.op = true := by
        have := List.all_eq_true.1 hH i (List.mem_range.2 hic)
        unfold plainO at this
        rwa [ho] at this
      rw [e2]
      split
      · rename_i hwt
        rw [if_pos hwt] at hv
        rw [gives_eq e1]
        refine gives_imp (gives_of_plain hpl (hv w (later_regrown.2 hCw))) ?_
        rintro u w' ⟨rfl, rfl⟩
        exact hC.keep (by omega) (by omega) (fun _ => rfl) (Below.refl _ _)
      · rename_i hwt
        rw [if_neg hwt] at hv
        exact hC.keep (by omega) (by omega) (fun _ => hv.symm) (Below.refl _ _)
    · subst hic
      obtain rfl : o = oa := Option.some.inj (ho.symm.trans hoa1)
      rw [if_pos (hwa _)]
      refine gives_alloc t ha1 (.agg zs) hz ?_
      exact hC.alloc (hlat _ hw) (Nat.le_refl _) (by omega)
    · obtain rfl : i = c + 1 := by omega
      obtain rfl : o = os := Option.some.inj (ho.symm.trans hos1)
      rw [if_pos (hws _)]
      obtain ⟨b, eb, hr, hst⟩ := hC.row (hdep c hw) hLi
      have hl := seq_looks hB ho (θ := θ) (θ' := updV val c (θ c)) (fun j hj hwj => by
        rcases Nat.lt_or_ge j c with hjc | hjc
        · rw [updV_ne _ _ (by omega)]; exact hT j hjc (hdep j hwj)
        · obtain rfl : j = c := by omega
          rw [updV_same]) a0
      obtain ⟨e1, e2⟩ := looks_congr (hsel _ o ho) hl
      have e3 : seqTo l.toArray (updV val c (θ c)) a0 (c + 1) = (seqTo l.toArray val a0 c).put (some ta) (.pointer (some ⟨b, 0, none⟩)) := by
        show (seqTo l.toArray (updV val c (θ c)) a0 c).put (dstOf l.toArray c) (updV val c (θ c) c) = _
        rw [seqTo_congr (updV val c (θ c)) val a0 c (fun j hj => updV_ne _ _ (by omega)), updV_same, hda, eb]
      rw [e3] at e1
      rw [gives_eq e1]
      have hsl : ta < (seqTo l.toArray val a0 c).tmps.size := by rw [seqTo_size]; exact hta
      refine gives_store_row t (.tmp ta) (.tmp ty) hs1 b cs ?_ ?_ t zs hr (by rw [hi, hzs]) hzs h1c (fun v w' hg ho' hb => hst w' v (by omega) (by omega) hg ho' hb)
      · simp only [Act.eval, Array.getD_eq_getD_getElem?, put_slot_eq, if_pos hsl]
        rfl
      · rw [← hy]
        simp only [Act.eval, Array.getD_eq_getD_getElem?, put_slot_ne _ _ _ _ (show some ta ≠ some ty from fun e => hne (Option.some.inj e).symm)]
  · intro θ L w hC hL
    have hall : ∀ j, j < c + 2 → L j = true := fun j hj => by rw [hL]; simpa using hj
    obtain ⟨b, eb, _, hS⟩ := hC.done (hall c (by omega)) (hall (c + 1) (by omega))
    have hrow := hS.rows (b, .cells cs t (0, 0)) (by simp)
    have e1 : seqTo l.toArray θ a0 (c + 2) = (seqTo l.toArray val a0 c).put (some ta) (.pointer (some ⟨b, 0, none⟩)) := by
      simp only [seqTo, hda, hds, eb, seqTo_congr θ val a0 c (fun j hj => hC.1 j hj (hall j (by omega)))]
      rfl
    rw [e1]
    exact hend b w hS.below hrow.1 hrow.2
end
/-- A block made by the way, of which nothing older is the same. -/
theorem Boxes.newer {w0 W W' : World} {L : List (Nat × Obj)} {b : Nat} {o : Obj} (h : Boxes w0 W L) (hb : Below W.heap.size W W') (hW : W.heap.size ≤ b) (hn : W'.heap[b]? = some o) : Boxes w0 W' (L ++ [(b, o)]) := by
  have h1 := h.step hb
  have key : ∀ (k : Nat) r, (L ++ [(b, o)])[k]? = some r → (k < L.length ∧ L[k]? = some r) ∨ (k = L.length ∧ r = (b, o)) := by
    intro k r hr
    rcases Nat.lt_or_ge k L.length with hk | hk
    · rw [List.getElem?_append_left hk] at hr; exact .inl ⟨hk, hr⟩
    · rw [List.getElem?_append_right hk] at hr
      rcases Nat.eq_zero_or_pos (k - L.length) with h0 | h0
      · rw [h0] at hr; obtain rfl := Option.some.inj hr; exact .inr ⟨by omega, rfl⟩
      · rw [List.getElem?_eq_none (by simp; omega)] at hr; cases hr
  refine ⟨h1.below, fun i p hp => ?_, fun i j p q hp hq hij => ?_⟩
  · rcases key i p hp with ⟨_, hp⟩ | ⟨_, rfl⟩
    · exact h1.rows i p hp
    · exact ⟨Nat.le_trans h.below.size hW, hn⟩
  · rcases key i p hp with ⟨h2, h3⟩ | ⟨h2, h3⟩ <;> rcases key j q hq with ⟨h4, h5⟩ | ⟨h4, h5⟩
    · exact h.apart i j p q h3 h5 hij
    · subst h5; have := h.lt i h3; show p.1 ≠ b; omega
    · subst h3; have := h.lt j h5; show b ≠ q.1; omega
    · omega
end Go.Proofs.YteplcnpmdjdlkaaGreatDoor
