/-
  A statement whose order Go leaves open, all of it only reads but one call, whose value is not the same in all worlds. No condition of a law's; a tool of the walks.
-/
import Derived.Test.YtffcpmohanhihaaGreatDoorReg
import Derived.BigQuiet
namespace Go.Proofs.YtffcpmohanhihaaGreatDoor
set_option linter.unusedVariables false
set_option linter.unusedSimpArgs false
section
variable {P : Program} {ops : Array Oper} {Q : Exit → Act → World → Prop}
theorem seqTo_slot (t : Tmp) (θ θ' : Nat → Value) (a0 : Act) (n : Nat) (h : ∀ j, j < n → dstOf ops j = some t → θ j = θ' j) : (seqTo ops θ a0 n).tmps[t]? = (seqTo ops θ' a0 n).tmps[t]? := by
  have e : ∀ θ, seqTo ops θ a0 n = putTo ops θ (fun _ => true) a0 n := fun θ => (putTo_all θ (fun _ => true) a0 n (fun _ _ => rfl)).symm
  rw [e, e]
  exact putTo_slot t θ θ' _ _ a0 n (fun j hj hd => ⟨rfl, fun _ => h j hj hd⟩)
theorem seq_looks (hB : ordOK ops = true) {i : Nat} {o : Oper} (ho : ops[i]? = some o) {θ θ' : Nat → Value} (h : ∀ j, j < i → waits ops i j = true → θ j = θ' j) (a0 : Act) :
    ∀ t, t ∈ o.looksAt ops → (seqTo ops θ a0 i).tmps[t]? = (seqTo ops θ' a0 i).tmps[t]? := by
  intro t ht
  have hi : i < ops.size := (Array.getElem?_eq_some_iff.1 ho).1
  refine seqTo_slot t θ θ' a0 i fun j hj hd => h j hj ?_
  obtain ⟨oj, hoj, hdj⟩ : ∃ oj, ops[j]? = some oj ∧ oj.dst = some t := by
    unfold dstOf at hd
    cases h : ops[j]? with
    | none => simp [h] at hd
    | some oj => exact ⟨oj, rfl, by simpa [h] using hd⟩
  refine (ordOK_spec hB hi (by omega)).2.2 hj ?_
  simp only [meets, hoj, ho, Bool.not_eq_true', Oper.apart, hdj]
  simp [ht]
theorem gives_eq {o : Oper} {a b : Act} {w : World} {R : Value → World → Prop} (h : execOp a.eval o = execOp b.eval o) : gives P o a w R = gives P o b w R := by
  unfold gives
  rw [h]
theorem gives_imp {o : Oper} {a : Act} {w : World} {R R' : Value → World → Prop} (h : gives P o a w R) (hR : ∀ v w', R v w' → R' v w') : gives P o a w R' := by
  unfold gives at *
  generalize (execOp a.eval o).run P w = r at *
  cases r with
  | halt x w' => exact h
  | ok nx w' =>
    cases nx with
    | value u => exact hR _ _ h
    | skip => exact hR _ _ h
    | enter f args => exact Calls.mono h (fun e w'' ⟨v, he, hv⟩ => ⟨v, he, hR _ _ hv⟩)
    | _ => exact h.elim
/-- A load only reads. -/
def loadAt (ops : Array Oper) (i : Nat) : Bool := match ops[i]? with
  | some o => (match o.op with | .load .. => true | _ => false)
  | none => false
theorem gives_of_load {o : Oper} {a : Act} {C : World → Prop} {w : World} {v : Value} (hl : (match o.op with | .load .. => true | _ => false) = true) (h : o.quietAt P a C w v) : gives P o a w (fun u w' => u = v ∧ w' = w) := by
  obtain ⟨t, x, ho⟩ : ∃ t x, o.op = .load t x := by
    split at hl
    · rename_i t x ho; exact ⟨t, x, ho⟩
    · cases hl
  unfold Oper.quietAt execOp at h
  unfold gives execOp
  simp only [ho, Sem.run_bind] at h ⊢
  generalize (Instr.loadAt t (a.eval x)).run P w = r at *
  cases r with
  | halt x w' => exact h
  | ok nx w' =>
    simp only [Result.andThen_ok, Sem.run_pure, Oper.quietUpon] at h ⊢
    exact ⟨h.2, h.1⟩
/-- What is asked of the one call: all behind it in the text wait for it; what it does not wait for are loads. -/
def midOK (ops : Array Oper) (c : Nat) : Bool := (List.range ops.size).all fun k => (decide (k ≤ c) || waits ops k c) && (decide (c ≤ k) || waits ops c k || loadAt ops k)
theorem tail_all (ops : Array Oper) : tailOK ops ops.size = true := by
  unfold tailOK
  rw [List.all_eq_true]
  intro k hk
  rw [decide_eq_true (List.mem_range.1 hk)]
  rfl
theorem wp_region_mid {id : Nat} {a0 : Act} {w0 : World} {l : List Oper} (ops' : Array Oper) (he : l.toArray = ops') (c : Nat) (hm : P.follows .mixedOrders = true) (hs : Region.noSelect ops' = true) (hB : ordOK ops' = true) (hcl : c < l.length) (hM : midOK ops' c = true) (C : World → Prop) (R : Value → World → Prop)
    (hC : C { w0 with drawn := w0.drawn + 1 })
    (h : wpQuiet P l.toArray C (fun a => ∀ o, l.toArray[c]? = some o → Region.wanted o (yielded l.toArray a.tmps) = true ∧ (∀ w, C w → gives P o a w (fun v w' => C w' ∧ R v w')) ∧
      ∀ v, (∃ w, C w ∧ R v w) → wpQuiet P l.toArray (fun w => C w ∧ R v w) (fun a => ∀ w, C w → R v w → Q .normal a w) (l.drop (c + 1)) (a.put o.dst v)) (l.take c) a0) : (Code.region id l.toArray true).wp P Q a0 w0 := by
  subst he
  have hsel : ∀ (i : Nat) o, l.toArray[i]? = some o → ∀ cs b, o.op ≠ .select cs b := fun i o ho cs b => Region.noSelect_spec hs i o cs b ho
  have hsz : l.toArray.size = l.length := by simp
  obtain ⟨val, _, hval, hE⟩ := quiet_values (ops := l.toArray) (a0 := a0) (l.take c) 0 (fun _ => undef) (fun j hj => by
    have hj' : j < c := by simp at hj; omega
    simp [List.getElem?_take, hj']) h
  have hl0 : 0 + (l.take c).length = c := by simp; omega
  rw [hl0] at hE hval
  obtain ⟨oc, hoc⟩ : ∃ oc, l.toArray[c]? = some oc := ⟨_, Array.getElem?_eq_getElem (by rw [hsz]; exact hcl)⟩
  obtain ⟨hwc, hgc, hqc⟩ := hE oc hoc
  have hdst : dstOf l.toArray c = oc.dst := by simp [dstOf, hoc]
  have hex : ∀ v, ∃ θ : Nat → Value, (∃ w, C w ∧ R v w) → (∀ j, j < c + 1 → θ j = updV val c v j) ∧ (∀ i o, c + 1 ≤ i → i < l.length → l.toArray[i]? = some o → if Region.wanted o (yielded l.toArray (seqTo l.toArray θ a0 i).tmps) then ∀ w, (C w ∧ R v w) → o.quietAt P (seqTo l.toArray θ a0 i) (fun w => C w ∧ R v w) w (θ i) else θ i = undef) ∧
      (∀ w, C w → R v w → Q .normal (seqTo l.toArray θ a0 l.length) w) := fun v => by
    by_cases hv : ∃ w, C w ∧ R v w
    · have e1 : seqTo l.toArray (updV val c v) a0 (c + 1) = (seqTo l.toArray val a0 c).put oc.dst v := by
        simp only [seqTo, updV_same, hdst, seqTo_congr (updV val c v) val a0 c (fun j hj => updV_ne _ _ (by omega))]
      have hq := hqc v hv
      rw [← e1] at hq
      obtain ⟨θ, h1, h2, h3⟩ := quiet_values (ops := l.toArray) (a0 := a0) (l.drop (c + 1)) (c + 1) (updV val c v) (fun j hj => by simp) hq
      have hl1 : c + 1 + (l.drop (c + 1)).length = l.length := by simp; omega
      rw [hl1] at h2 h3
      exact ⟨θ, fun _ => ⟨h1, h2, h3⟩⟩
    · exact ⟨fun _ => undef, fun h => absurd h hv⟩
  have hF : ∃ F : Value → Nat → Value, ∀ v, (∃ w, C w ∧ R v w) → (∀ j, j < c + 1 → F v j = updV val c v j) ∧ (∀ i o, c + 1 ≤ i → i < l.length → l.toArray[i]? = some o → if Region.wanted o (yielded l.toArray (seqTo l.toArray (F v) a0 i).tmps) then ∀ w, (C w ∧ R v w) → o.quietAt P (seqTo l.toArray (F v) a0 i) (fun w => C w ∧ R v w) w (F v i) else F v i = undef) ∧
      (∀ w, C w → R v w → Q .normal (seqTo l.toArray (F v) a0 l.length) w) := ⟨fun v => Classical.choose (hex v), fun v => Classical.choose_spec (hex v)⟩
  obtain ⟨F, hF⟩ := hF
  have hmid : ∀ k, k < l.length → (k ≤ c ∨ waits l.toArray k c = true) ∧ (c ≤ k ∨ waits l.toArray c k = true ∨ loadAt l.toArray k = true) := fun k hk => by
    have := List.all_eq_true.1 hM k (List.mem_range.2 (by rw [hsz]; exact hk))
    simp only [Bool.and_eq_true, Bool.or_eq_true, decide_eq_true_eq] at this
    exact ⟨this.1, by rcases this.2 with (h | h) | h <;> simp [h]⟩
  refine wp_region_env l.toArray.size hm hs hB (Nat.le_refl _) (tail_all _) (fun θ L w => C w ∧ (∀ i, i < c → L i = true → θ i = val i) ∧ (L c = true → R (θ c) w ∧ ∀ i, c < i → L i = true → θ i = F (θ c) i) ∧ (∀ i, c < i → L i = true → L c = true)) ⟨fun _ => undef, hC, (fun i _ h => by cases h), (fun h => by cases h), (fun i _ h => by cases h)⟩ ?_ ?_
  · intro i o hi ho θ L w hc hLi hdep hlat
    obtain ⟨hCw, h1, h2, h3⟩ := hc
    rw [hsz] at hi
    rcases Nat.lt_trichotomy i c with hic | hic | hic
    · -- ahead of the call
      have hl := seq_looks hB ho (θ := θ) (θ' := val) (fun j hj hw => h1 j (by omega) (hdep j hw)) a0
      obtain ⟨e1, e2⟩ := looks_congr (hsel i o ho) hl
      have hv := hval i o (Nat.zero_le _) hic ho
      have hne : c ≠ i := by omega
      rw [e2]
      split
      · rename_i hwt
        rw [if_pos hwt] at hv
        rw [gives_eq e1]
        cases hLc : L c with
        | false =>
          refine gives_imp (gives_of_quietAt hCw (hv w hCw)) ?_
          rintro u w' ⟨rfl, hw'⟩
          refine ⟨hw', fun j hj hl => ?_, fun hl => ?_, fun j hj hl => ?_⟩
          · by_cases hji : j = i
            · subst hji; exact updV_same ..
            · rw [updV_ne _ _ hji]; rw [updL_ne _ hji] at hl; exact h1 j hj hl
          · rw [updL_ne _ hne, hLc] at hl; cases hl
          · rw [updL_ne _ (by omega)] at hl
            rw [updL_ne _ hne]
            exact h3 j hj hl
        | true =>
          have hld : loadAt l.toArray i = true := by
            rcases (hmid i hi).2 with h | h | h
            · omega
            · have := hlat c h; rw [hLc] at this; cases this
            · exact h
          have hld' : (match o.op with | .load .. => true | _ => false) = true := by unfold loadAt at hld; rw [ho] at hld; exact hld
          refine gives_imp (gives_of_load hld' (hv w hCw)) ?_
          rintro u w' ⟨rfl, rfl⟩
          obtain ⟨h2a, h2b⟩ := h2 hLc
          refine ⟨hCw, fun j hj hl => ?_, fun hl => ?_, fun j hj hl => ?_⟩
          · by_cases hji : j = i
            · subst hji; exact updV_same ..
            · rw [updV_ne _ _ hji]; rw [updL_ne _ hji] at hl; exact h1 j hj hl
          · rw [updV_ne _ _ hne]
            refine ⟨h2a, fun j hj hl => ?_⟩
            rw [updV_ne _ _ (by omega)]
            rw [updL_ne _ (by omega)] at hl
            exact h2b j hj hl
          · rw [updL_ne _ hne]; exact hLc
      · rename_i hwt
        rw [if_neg hwt] at hv
        refine ⟨hCw, fun j hj hl => ?_, fun hl => ?_, fun j hj hl => ?_⟩
        · by_cases hji : j = i
          · subst hji; rw [updV_same]; exact hv.symm
          · rw [updV_ne _ _ hji]; rw [updL_ne _ hji] at hl; exact h1 j hj hl
        · rw [updL_ne _ hne] at hl
          obtain ⟨h2a, h2b⟩ := h2 hl
          rw [updV_ne _ _ hne]
          refine ⟨h2a, fun j hj hl => ?_⟩
          rw [updV_ne _ _ (by omega)]
          rw [updL_ne _ (by omega)] at hl
          exact h2b j hj hl
        · rw [updL_ne _ (by omega)] at hl
          rw [updL_ne _ hne]
          exact h3 j hj hl
    · subst hic
      obtain rfl : o = oc := Option.some.inj (ho.symm.trans hoc)
      have hl := seq_looks hB ho (θ := θ) (θ' := val) (fun j hj hw => h1 j hj (hdep j hw)) a0
      obtain ⟨e1, e2⟩ := looks_congr (hsel i o ho) hl
      rw [e2, if_pos hwc, gives_eq e1]
      refine gives_imp (hgc w hCw) ?_
      rintro u w' ⟨hw', hR⟩
      refine ⟨hw', fun j hj hl => ?_, fun hl => ?_, fun j hj hl => updL_same ..⟩
      · rw [updV_ne _ _ (by omega)]; rw [updL_ne _ (by omega)] at hl; exact h1 j hj hl
      · rw [updV_same]
        refine ⟨hR, fun j hj hl => ?_⟩
        rw [updL_ne _ (by omega)] at hl
        have := h3 j hj hl
        rw [hLi] at this
        cases this
    · have hLc : L c = true := by
        rcases (hmid i hi).1 with h | h
        · omega
        · exact hdep c h
      obtain ⟨h2a, h2b⟩ := h2 hLc
      obtain ⟨f1, f2, f3⟩ := hF (θ c) ⟨w, hCw, h2a⟩
      have hl := seq_looks hB ho (θ := θ) (θ' := F (θ c)) (fun j hj hw => by
        have hLj := hdep j hw
        rcases Nat.lt_trichotomy j c with hjc | hjc | hjc
        · rw [h1 j hjc hLj, f1 j (by omega), updV_ne _ _ (by omega)]
        · subst hjc; rw [f1 j (by omega), updV_same]
        · exact h2b j hjc hLj) a0
      obtain ⟨e1, e2⟩ := looks_congr (hsel i o ho) hl
      have hv := f2 i o (by omega) hi ho
      have hne : c ≠ i := by omega
      rw [e2]
      split
      · rename_i hwt
        rw [if_pos hwt] at hv
        rw [gives_eq e1]
        refine gives_imp (gives_of_quietAt (C := fun w => C w ∧ R (θ c) w) ⟨hCw, h2a⟩ (hv w ⟨hCw, h2a⟩)) ?_
        rintro u w' ⟨rfl, hw', hR'⟩
        refine ⟨hw', fun j hj hl => ?_, fun hl => ?_, fun j hj hl => ?_⟩
        · rw [updV_ne _ _ (by omega)]; rw [updL_ne _ (by omega)] at hl; exact h1 j hj hl
        · rw [updV_ne _ _ hne]
          refine ⟨hR', fun j hj hl => ?_⟩
          by_cases hji : j = i
          · subst hji; exact updV_same ..
          · rw [updV_ne _ _ hji]; rw [updL_ne _ hji] at hl; exact h2b j hj hl
        · rw [updL_ne _ hne]; exact hLc
      · rename_i hwt
        rw [if_neg hwt] at hv
        refine ⟨hCw, fun j hj hl => ?_, fun hl => ?_, fun j hj hl => ?_⟩
        · rw [updV_ne _ _ (by omega)]; rw [updL_ne _ (by omega)] at hl; exact h1 j hj hl
        · rw [updV_ne _ _ hne]
          refine ⟨h2a, fun j hj hl => ?_⟩
          by_cases hji : j = i
          · subst hji; rw [updV_same]; exact hv.symm
          · rw [updV_ne _ _ hji]; rw [updL_ne _ hji] at hl; exact h2b j hj hl
        · rw [updL_ne _ hne]; exact hLc
  · intro θ L w hc hL
    obtain ⟨hCw, h1, h2, h3⟩ := hc
    have hall : ∀ j, j < l.length → L j = true := fun j hj => by rw [hL]; simpa using hj
    obtain ⟨h2a, h2b⟩ := h2 (hall c hcl)
    obtain ⟨f1, f2, f3⟩ := hF (θ c) ⟨w, hCw, h2a⟩
    have e : seqTo l.toArray θ a0 l.toArray.size = seqTo l.toArray (F (θ c)) a0 l.length := by
      rw [hsz]
      refine seqTo_congr _ _ _ _ fun j hj => ?_
      rcases Nat.lt_trichotomy j c with hjc | hjc | hjc
      · rw [h1 j hjc (hall j hj), f1 j (by omega), updV_ne _ _ (by omega)]
      · subst hjc; rw [f1 j (by omega), updV_same]
      · exact h2b j hjc (hall j hj)
    rw [e]
    have hd : l.toArray.toList.drop l.toArray.size = [] := by simp
    rw [hd]
    exact f3 w hCw h2a
/-- In such a region: a call, told in all worlds of the class. -/
theorem q_call {C : World → Prop} {E : Act → Prop} {rest : List Oper} {o : Oper} {a : Act} (hwt : Region.wanted o (yielded ops a.tmps) = true) {f : FuncId} {fn : Func} {c : Code} (xs : Array Operand) (ts : Array TypeId) (ho : o.op = .call { callee := .value (.func f), args := xs, argTypes := ts }) (hf : P.funcs[f]? = some fn) (hn : (fn.name == "runtime.NumGoroutine") = false) (hb : fn.body = some c) (vs : Array Value) (hx : xs.map a.eval = vs) {v : Value}
    (hc : ∀ w, C w → Calls P f vs w fun e w' => e = .returned v ∧ C w') (h : wpQuiet P ops C E rest (a.put o.dst v)) : wpQuiet P ops C E (o :: rest) a :=
  BigFrame.wpQuiet_want hwt fun K hK => ⟨v, fun w hw => by
    have he : (execOp a.eval o).run P w = .ok (.enter f vs) w := by
      have h1 : fn.name ≠ "runtime.NumGoroutine" := by simpa using hn
      unfold execOp
      simp only [ho, resolve, hx, Act.eval, Deferred.ofValue, Sem.run_bind, Sem.run_pure, Result.andThen_ok]
      simp [invoke, callFunc, hf, h1, hb, mark]
    unfold Oper.quietAt
    rw [he]
    exact ⟨rfl, hc w hw⟩, hK _ h⟩
/-- .. an operation that looks at no memory. -/
theorem q_pure {C : World → Prop} {E : Act → Prop} {rest : List Oper} {o : Oper} {a : Act} (hwt : Region.wanted o (yielded ops a.tmps) = true) (v : Value) (hr : ∀ w, (execOp a.eval o).run P w = .ok (.value v) w) (h : wpQuiet P ops C E rest (a.put o.dst v)) : wpQuiet P ops C E (o :: rest) a :=
  BigFrame.wpQuiet_want hwt fun K hK => ⟨v, fun w hw => by
    unfold Oper.quietAt
    rw [hr w]
    exact ⟨rfl, rfl⟩, hK _ h⟩
theorem q_pick {C : World → Prop} {E : Act → Prop} {rest : List Oper} {o : Oper} {a : Act} (hwt : Region.wanted o (yielded ops a.tmps) = true) (c x z : Operand) (ho : o.op = .pick c x z) (b : Bool) (hc : a.eval c = .bool b) {v : Value} (hv : (if b then a.eval x else a.eval z) = v) (h : wpQuiet P ops C E rest (a.put o.dst v)) : wpQuiet P ops C E (o :: rest) a :=
  q_pure hwt v (fun w => by unfold execOp; simp only [ho, hc, asBool, Sem.run_bind, Sem.run_pure, Result.andThen_ok, hv]) h
theorem q_move {C : World → Prop} {E : Act → Prop} {rest : List Oper} {o : Oper} {a : Act} (hwt : Region.wanted o (yielded ops a.tmps) = true) (x : Operand) (ho : o.op = .move x ∨ o.op = .assign x) {v : Value} (hv : a.eval x = v) (h : wpQuiet P ops C E rest (a.put o.dst v)) : wpQuiet P ops C E (o :: rest) a :=
  q_pure hwt v (fun w => by unfold execOp; rcases ho with ho | ho <;> simp only [ho, hv, Sem.run_pure]) h
theorem q_not {C : World → Prop} {E : Act → Prop} {rest : List Oper} {o : Oper} {a : Act} (hwt : Region.wanted o (yielded ops a.tmps) = true) (t : TypeId) (x : Operand) (ho : o.op = .unOp .not t x) (b : Bool) (hc : a.eval x = .bool b) (h : wpQuiet P ops C E rest (a.put o.dst (.bool !b))) : wpQuiet P ops C E (o :: rest) a :=
  q_pure hwt _ (fun w => by unfold execOp; simp only [ho, hc]; rfl) h
end
end Go.Proofs.YtffcpmohanhihaaGreatDoor
