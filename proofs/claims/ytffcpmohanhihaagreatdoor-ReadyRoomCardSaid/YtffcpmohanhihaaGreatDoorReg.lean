/-
  A statement whose order Go leaves open, shown operation by operation: each once, whatever came ahead of it. No condition of a law's; a tool of the walks.
-/
import Derived.WalkKit
import Derived.BigFrame
import Derived.Lib.QuietBelow
namespace Go.Proofs.YtffcpmohanhihaaGreatDoor
set_option linter.unusedVariables false
set_option linter.unusedSimpArgs false
section
variable {P : Program} {ops : Array Oper} {Q : Exit → Act → World → Prop}

def dstOf (ops : Array Oper) (j : Nat) : Option Tmp := (ops[j]?).bind (·.dst)
/-- All of the first n that came, in the text's order. -/
def putTo (ops : Array Oper) (θ : Nat → Value) (L : Nat → Bool) (a0 : Act) : Nat → Act
  | 0 => a0
  | n + 1 => if L n then (putTo ops θ L a0 n).put (dstOf ops n) (θ n) else putTo ops θ L a0 n
/-- The first n, one behind the other. -/
def seqTo (ops : Array Oper) (θ : Nat → Value) (a0 : Act) : Nat → Act
  | 0 => a0
  | n + 1 => (seqTo ops θ a0 n).put (dstOf ops n) (θ n)

theorem put_slot_ne (a : Act) (d : Option Tmp) (v : Value) (t : Tmp) (h : d ≠ some t) : (a.put d v).tmps[t]? = a.tmps[t]? := by
  cases d with
  | none => rfl
  | some d =>
    have : d ≠ t := fun e => h (e ▸ rfl)
    simp [Act.put, Array.getElem?_setIfInBounds_ne this]
theorem put_slot_eq (a : Act) (v : Value) (t : Tmp) : (a.put (some t) v).tmps[t]? = if t < a.tmps.size then some v else none := by
  simp only [Act.put, Array.getElem?_setIfInBounds]
  simp
theorem put_size (a : Act) (d : Option Tmp) (v : Value) : (a.put d v).tmps.size = a.tmps.size := by
  cases d <;> simp [Act.put]
theorem put_defers (a : Act) (d : Option Tmp) (v : Value) : (a.put d v).defers = a.defers := by
  cases d <;> rfl
theorem putTo_size (θ : Nat → Value) (L : Nat → Bool) (a0 : Act) (n : Nat) : (putTo ops θ L a0 n).tmps.size = a0.tmps.size := by
  induction n with
  | zero => rfl
  | succ n ih => simp only [putTo]; split <;> simp [put_size, ih]
theorem putTo_slot (t : Tmp) (θ θ' : Nat → Value) (L L' : Nat → Bool) (a0 : Act) (n : Nat) (h : ∀ j, j < n → dstOf ops j = some t → L j = L' j ∧ (L j = true → θ j = θ' j)) :
    (putTo ops θ L a0 n).tmps[t]? = (putTo ops θ' L' a0 n).tmps[t]? := by
  induction n with
  | zero => rfl
  | succ n ih =>
    have ih := ih (fun j hj => h j (by omega))
    simp only [putTo]
    by_cases hd : dstOf ops n = some t
    · obtain ⟨h1, h2⟩ := h n (by omega) hd
      rw [← h1]
      cases hl : L n
      · simpa using ih
      · simp only [if_true, hd, put_slot_eq, putTo_size, h2 hl]
    · have e1 : (if L n = true then (putTo ops θ L a0 n).put (dstOf ops n) (θ n) else putTo ops θ L a0 n).tmps[t]? = (putTo ops θ L a0 n).tmps[t]? := by
        split
        · exact put_slot_ne _ _ _ _ hd
        · rfl
      have e2 : (if L' n = true then (putTo ops θ' L' a0 n).put (dstOf ops n) (θ' n) else putTo ops θ' L' a0 n).tmps[t]? = (putTo ops θ' L' a0 n).tmps[t]? := by
        split
        · exact put_slot_ne _ _ _ _ hd
        · rfl
      rw [e1, e2, ih]
theorem putTo_all (θ : Nat → Value) (L : Nat → Bool) (a0 : Act) (n : Nat) (h : ∀ j, j < n → L j = true) : putTo ops θ L a0 n = seqTo ops θ a0 n := by
  induction n with
  | zero => rfl
  | succ n ih => simp only [putTo, seqTo, h n (by omega), if_true, ih (fun j hj => h j (by omega))]
theorem putTo_stop (θ : Nat → Value) (L : Nat → Bool) (a0 : Act) (m d : Nat) (h : ∀ j, m ≤ j → L j = false) : putTo ops θ L a0 (m + d) = putTo ops θ L a0 m := by
  induction d with
  | zero => rfl
  | succ d ih => rw [← Nat.add_assoc]; simp only [putTo, h (m + d) (by omega)]; simpa using ih
theorem seqTo_congr (θ θ' : Nat → Value) (a0 : Act) (n : Nat) (h : ∀ j, j < n → θ j = θ' j) : seqTo ops θ a0 n = seqTo ops θ' a0 n := by
  induction n with
  | zero => rfl
  | succ n ih => simp only [seqTo, h n (by omega), ih (fun j hj => h j (by omega))]

def updV (θ : Nat → Value) (i : Nat) (v : Value) : Nat → Value := fun j => if j = i then v else θ j
def updL (L : Nat → Bool) (i : Nat) : Nat → Bool := fun j => if j = i then true else L j
theorem updV_same (θ : Nat → Value) (i : Nat) (v : Value) : updV θ i v i = v := by simp [updV]
theorem updV_ne (θ : Nat → Value) {i j : Nat} (v : Value) (h : j ≠ i) : updV θ i v j = θ j := by simp [updV, h]
theorem updL_same (L : Nat → Bool) (i : Nat) : updL L i i = true := by simp [updL]
theorem updL_ne (L : Nat → Bool) {i j : Nat} (h : j ≠ i) : updL L i j = L j := by simp [updL, h]

/-- One more has come: its place in the text's order is behind nothing that writes where it does. -/
theorem putTo_upd (θ : Nat → Value) (L : Nat → Bool) (a0 : Act) (i : Nat) (v : Value) (hLi : L i = false) (n : Nat) (h : ∀ j, i < j → j < n → L j = true → ∀ t, dstOf ops i = some t → dstOf ops j ≠ some t) :
    putTo ops (updV θ i v) (updL L i) a0 n = if i < n then (putTo ops θ L a0 n).put (dstOf ops i) v else putTo ops θ L a0 n := by
  induction n with
  | zero => simp [putTo]
  | succ n ih =>
    have ih := ih (fun j h1 h2 => h j h1 (by omega))
    rcases Nat.lt_trichotomy n i with hn | hn | hn
    · rw [if_neg (by omega)]
      rw [if_neg (by omega)] at ih
      simp only [putTo, updL_ne L (show n ≠ i by omega), updV_ne θ v (show n ≠ i by omega), ih]
    · subst hn
      rw [if_neg (by omega)] at ih
      simp only [putTo, updL_same, updV_same, ih, hLi, if_true]
      simp
    · rw [if_pos (by omega)]
      rw [if_pos (by omega)] at ih
      simp only [putTo, updL_ne L (show n ≠ i by omega), updV_ne θ v (show n ≠ i by omega), ih]
      cases hl : L n
      · simp
      · simp only [if_true]
        exact Act.put_comm _ v (θ n) (fun t ht => h n hn (by omega) hl t ht)

/-- Row j waits for row i, by one edge. -/
def direct (ops : Array Oper) (j i : Nat) : Bool := match ops[j]? with
  | some o => o.after.any fun e => Region.binds .any e && e.on == i
  | none => false
/-- .. or by several. -/
def waits (ops : Array Oper) (j i : Nat) : Bool := ((Region.before ops).getD j 0).testBit i
def meets (ops : Array Oper) (i j : Nat) : Bool := match ops[i]?, ops[j]? with
  | some x, some y => !(x.apart ops y)
  | _, _ => false
/-- What is asked of a region's edges. -/
def ordOK (ops : Array Oper) : Bool :=
  let M := Region.before ops
  (List.range ops.size).all fun j =>
    ((List.range ops.size).all fun i => (!(M.getD j 0).testBit i || direct ops j i || (List.range ops.size).any fun k => direct ops j k && (M.getD k 0).testBit i) && (!direct ops j i || (decide (i < j) && (M.getD j 0).testBit i))
      && (decide (j ≤ i) || !meets ops i j || (M.getD j 0).testBit i)) && decide ((M.getD j 0) < 2 ^ j) && (match ops[j]? with
      | some o => o.after.all fun e => !(Region.binds .any e) || decide (e.on < j)
      | none => true)
theorem direct_lt (h : ordOK ops = true) {j i : Nat} (hd : direct ops j i = true) : i < j ∧ j < ops.size := by
  unfold direct at hd
  cases ho : ops[j]? with
  | none => rw [ho] at hd; cases hd
  | some o =>
    rw [ho] at hd
    have hj : j < ops.size := (Array.getElem?_eq_some_iff.1 ho).1
    have h1 := List.all_eq_true.1 h j (List.mem_range.2 hj)
    simp only [Bool.and_eq_true, ho] at h1
    obtain ⟨e, he, hb⟩ := Array.any_eq_true'.1 hd
    simp only [Bool.and_eq_true, beq_iff_eq] at hb
    have h2 := (Array.all_eq_true_iff_forall_mem.1 h1.2) e he
    simp only [hb.1, Bool.not_true, Bool.false_or, decide_eq_true_eq] at h2
    exact ⟨by omega, hj⟩
theorem ordOK_spec (h : ordOK ops = true) {j i : Nat} (hj : j < ops.size) (hi : i < ops.size) :
    (waits ops j i = true → direct ops j i = true ∨ ∃ k, k < ops.size ∧ direct ops j k = true ∧ waits ops k i = true) ∧ (direct ops j i = true → i < j ∧ waits ops j i = true) ∧ (i < j → meets ops i j = true → waits ops j i = true) := by
  have h1 := List.all_eq_true.1 h j (List.mem_range.2 hj)
  simp only [Bool.and_eq_true] at h1
  have h2 := List.all_eq_true.1 h1.1.1 i (List.mem_range.2 hi)
  simp only [Bool.and_eq_true, Bool.or_eq_true, Bool.not_eq_true', decide_eq_true_eq] at h2
  obtain ⟨⟨h2, h3⟩, h4⟩ := h2
  refine ⟨fun hw => ?_, fun hd => ?_, fun hlt hm => ?_⟩
  · rcases h2 with (h2 | h2) | h2
    · unfold waits at hw; rw [h2] at hw; cases hw
    · exact .inl h2
    · obtain ⟨k, hk, hk2⟩ := List.any_eq_true.1 h2
      simp only [Bool.and_eq_true] at hk2
      exact .inr ⟨k, List.mem_range.1 hk, hk2.1, hk2.2⟩
  · rcases h3 with h3 | h3
    · rw [h3] at hd; cases hd
    · exact h3
  · rcases h4 with (h4 | h4) | h4
    · omega
    · rw [h4] at hm; cases hm
    · exact h4
theorem waits_lt (h : ordOK ops = true) {j i : Nat} (hj : j < ops.size) (hw : waits ops j i = true) : i < j := by
  have h1 := List.all_eq_true.1 h j (List.mem_range.2 hj)
  simp only [Bool.and_eq_true, decide_eq_true_eq] at h1
  rcases Nat.lt_or_ge i j with hlt | hge
  · exact hlt
  · exfalso
    have : ((Region.before ops).getD j 0).testBit i = false := Nat.testBit_lt_two_pow (Nat.lt_of_lt_of_le h1.1.2 (Nat.pow_le_pow_right (by omega) hge))
    unfold waits at hw
    rw [this] at hw
    cases hw

/-- What has come is closed: with each all that it waits for. -/
def ClosedL (ops : Array Oper) (L : Nat → Bool) : Prop := (∀ j, ops.size ≤ j → L j = false) ∧ ∀ j, L j = true → ∀ i, direct ops j i = true → L i = true
theorem ClosedL.all (h : ordOK ops = true) {L : Nat → Bool} (c : ClosedL ops L) : ∀ j, L j = true → ∀ i, waits ops j i = true → L i = true := by
  intro j
  induction j using Nat.strongRecOn with
  | _ j ih =>
    intro hj i hw
    have hjs : j < ops.size := by
      rcases Nat.lt_or_ge j ops.size with h1 | h1
      · exact h1
      · rw [c.1 j h1] at hj; cases hj
    have hij := waits_lt h hjs hw
    rcases (ordOK_spec h hjs (by omega)).1 hw with h1 | ⟨k, hk, hd, hw2⟩
    · exact c.2 j hj i h1
    · exact ih k ((ordOK_spec h hjs hk).2.1 hd).1 (c.2 j hj k hd) i hw2

/-- What an operation gives: a value and a world; it doesn't panic. -/
def gives (P : Program) (o : Oper) (a : Act) (w : World) (R : Value → World → Prop) : Prop := match (execOp a.eval o).run P w with
  | .ok (.value v) w' => R v w'
  | .ok .skip w' => R undef w'
  | .ok (.enter f args) w' => Calls P f args w' fun e w'' => ∃ v, e = .returned v ∧ R v w''
  | _ => False
theorem gives_wp {o : Oper} {a : Act} {w : World} {R : Value → World → Prop} {K : Act → World → Prop} (h : gives P o a w R) (hK : ∀ v w', R v w' → K (a.put o.dst v) w') : o.wp P a w K Q := by
  unfold gives at h
  unfold Oper.wp
  generalize (execOp a.eval o).run P w = r at *
  cases r with
  | halt x w' => exact h.elim
  | ok n w' =>
    cases n with
    | value v => exact hK _ _ h
    | skip => exact hK _ _ h
    | enter f args => exact Calls.mono h (fun e w'' ⟨v, he, hr⟩ => by subst he; exact hK _ _ hr)
    | _ => exact h.elim

theorem looks_congr {o : Oper} (hs : ∀ cs b, o.op ≠ .select cs b) {a b : Act} (h : ∀ t, t ∈ o.looksAt ops → a.tmps[t]? = b.tmps[t]?) :
    execOp a.eval o = execOp b.eval o ∧ Region.wanted o (yielded ops a.tmps) = Region.wanted o (yielded ops b.tmps) := by
  constructor
  · refine execOp_congr o hs fun x hx => ?_
    cases x with
    | tmp t =>
      have := h t (List.mem_append_left _ (List.mem_filterMap.2 ⟨.tmp t, by simpa using hx, rfl⟩))
      simp only [Act.eval, Array.getD_eq_getD_getElem?, this]
    | _ => rfl
  · unfold Region.wanted
    cases hg : o.guard with
    | none => rfl
    | some gb =>
      obtain ⟨g, b'⟩ := gb
      have : yielded ops a.tmps g = yielded ops b.tmps g := by
        unfold yielded
        cases hd : (ops[g]?).bind (·.dst) with
        | none => rfl
        | some t =>
          have := h t (List.mem_append_right _ (by simp [hg, hd]))
          simp only [Option.bind_some, this]
      simp only [this]

/-- In state L operation i sees what it would see one behind the other. -/
theorem sees (hB : ordOK ops = true) {L : Nat → Bool} {i : Nat} {o : Oper} (ho : ops[i]? = some o) (hLi : L i = false) (c : ClosedL ops L) (hdep : ∀ j, direct ops i j = true → L j = true) (θ : Nat → Value) (a0 : Act) :
    ∀ t, t ∈ o.looksAt ops → (putTo ops θ L a0 ops.size).tmps[t]? = (seqTo ops θ a0 i).tmps[t]? := by
  intro t ht
  have hi : i < ops.size := (Array.getElem?_eq_some_iff.1 ho).1
  have e1 : seqTo ops θ a0 i = putTo ops θ (fun j => decide (j < i)) a0 ops.size := by
    rw [← putTo_all θ (fun j => decide (j < i)) a0 i (fun j hj => by simpa using hj)]
    obtain ⟨d, hd⟩ : ∃ d, ops.size = i + d := ⟨ops.size - i, by omega⟩
    rw [hd, putTo_stop θ (fun j => decide (j < i)) a0 i d (fun j hj => by simpa using hj)]
  rw [e1]
  refine putTo_slot t _ _ _ _ _ _ fun j hj hd => ⟨?_, fun _ => rfl⟩
  obtain ⟨oj, hoj, hdj⟩ : ∃ oj, ops[j]? = some oj ∧ oj.dst = some t := by
    unfold dstOf at hd
    cases h : ops[j]? with
    | none => simp [h] at hd
    | some oj => exact ⟨oj, rfl, by simpa [h] using hd⟩
  have alldeps : ∀ k, waits ops i k = true → L k = true := by
    intro k hk
    have hki := waits_lt hB hi hk
    rcases (ordOK_spec hB hi (by omega)).1 hk with h1 | ⟨m, hm, hd1, hw⟩
    · exact hdep k h1
    · exact c.all hB m (hdep m hd1) k hw
  rcases Nat.lt_trichotomy j i with hji | hji | hji
  · rw [decide_eq_true hji]
    refine alldeps j ((ordOK_spec hB hi hj).2.2 hji ?_)
    simp only [meets, hoj, ho, Bool.not_eq_true', Oper.apart, hdj]
    simp [ht]
  · subst hji
    rw [hLi]; simp
  · rw [decide_eq_false (by omega)]
    cases hl : L j with
    | false => rfl
    | true =>
      have hw := (ordOK_spec hB hj hi).2.2 hji (by
        simp only [meets, hoj, ho, Bool.not_eq_true', Oper.apart, hdj]
        simp [ht])
      have := c.all hB j hl i hw
      rw [hLi] at this
      cases this

theorem getD_both {listed : Array Bool} {i : Nat} (h : listed.getD i true = false) : listed.getD i false = false := by
  rcases Nat.lt_or_ge i listed.size with h' | h'
  · simp [h'] at h ⊢; exact h
  · simp [Array.getElem?_eq_none h'] at h
theorem getD_in {listed : Array Bool} {i : Nat} (hi : i < listed.size) (h : listed.getD i false = false) : listed.getD i true = false := by
  simp [hi] at h ⊢; exact h
/-- From operation n on each waits for all ahead of it. -/
def tailOK (ops : Array Oper) (n : Nat) : Bool := (List.range ops.size).all fun k => decide (k < n) || (List.range k).all fun j => waits ops k j

theorem ready_tail (hB : ordOK ops = true) {n k : Nat} (hT : tailOK ops n = true) (hn : n ≤ k) {listed : Array Bool} (hl : ∀ j, listed.getD j false = decide (j < k)) (hsz : listed.size = ops.size) {i : Nat} (hi : i ∈ Region.ready .any ops listed) : i = k := by
  obtain ⟨h0, o, ho, hall⟩ := mem_ready.1 hi
  have his : i < ops.size := (Array.getElem?_eq_some_iff.1 ho).1
  have h0' : listed.getD i false = false := getD_both h0
  rw [hl] at h0'
  simp at h0'
  rcases Nat.eq_or_lt_of_le h0' with h | h
  · exact h.symm
  · exfalso
    have h1 := List.all_eq_true.1 hT i (List.mem_range.2 his)
    simp only [Bool.or_eq_true, decide_eq_true_eq] at h1
    rcases h1 with h1 | h1
    · omega
    · have h2 := List.all_eq_true.1 h1 k (List.mem_range.2 h)
      -- the waits' first step is unlisted or leads on
      have key : ∀ (m : Nat), m < ops.size → waits ops m k = true → ∃ d, direct ops m d = true ∧ k ≤ d := by
        intro m hm hw
        have hkm := waits_lt hB hm hw
        rcases (ordOK_spec hB hm (by omega)).1 hw with h3 | ⟨d, hd, hdd, hdw⟩
        · exact ⟨k, h3, Nat.le_refl _⟩
        · have := waits_lt hB hd hdw
          exact ⟨d, hdd, by omega⟩
      obtain ⟨d, hd, hkd⟩ := key i his h2
      unfold direct at hd
      rw [ho] at hd
      obtain ⟨e, he, hb⟩ := Array.any_eq_true'.1 hd
      simp only [Bool.and_eq_true, beq_iff_eq] at hb
      have h3 := hall e he hb.1
      rw [hb.2, hl] at h3
      simp at h3
      omega

theorem tail_phase (hB : ordOK ops = true) {n : Nat} (hT : tailOK ops n = true) : ∀ (f k : Nat), n ≤ k → k + f = ops.size → ∀ (listed : Array Bool) (a : Act) (w : World), listed.size = ops.size → (∀ j, listed.getD j false = decide (j < k)) →
    wpList P ops Q (ops.toList.drop k) a w → wpAny P .any ops Q f listed a w := by
  intro f
  induction f with
  | zero =>
    intro k hn hk listed a w hsz hl h
    have hnil : ops.toList.drop k = [] := List.drop_of_length_le (by simp; omega)
    rw [hnil] at h
    refine ⟨?_, h⟩
    rw [List.eq_nil_iff_forall_not_mem]
    intro i hi
    have := ready_tail hB hT hn hl hsz hi
    obtain ⟨_, o, ho, _⟩ := mem_ready.1 hi
    have := (Array.getElem?_eq_some_iff.1 ho).1
    omega
  | succ f ih =>
    intro k hn hk listed a w hsz hl h
    have hks : k < ops.size := by omega
    have hcons : ops.toList.drop k = ops[k] :: ops.toList.drop (k + 1) := by
      rw [List.drop_eq_getElem_cons (by simpa using hks)]; simp
    rw [hcons] at h
    have hok : ops[k]? = some ops[k] := Array.getElem?_eq_getElem hks
    refine ⟨fun h0 => ?_, fun i hi => ?_⟩
    · exfalso
      have : k ∈ Region.ready .any ops listed := by
        rw [mem_ready]
        have h1 := hl k
        simp only [Nat.lt_irrefl, decide_false] at h1
        refine ⟨by simp [hsz, hks] at h1 ⊢; exact h1, ops[k], hok, fun e he hb => ?_⟩
        have hd : direct ops k e.on = true := by
          unfold direct; rw [hok]
          exact Array.any_eq_true'.2 ⟨e, he, by simp [hb]⟩
        rw [hl]; simpa using (direct_lt hB hd).1
      rw [h0] at this
      cases this
    · obtain rfl := ready_tail hB hT hn hl hsz hi
      unfold wpOp
      simp only [hok]
      unfold wpList at h
      have next : ∀ a' w', wpList P ops Q (ops.toList.drop (i + 1)) a' w' → wpAny P .any ops Q f (listed.setIfInBounds i true) a' w' := fun a' w' h' =>
        ih (i + 1) (by omega) (by omega) _ a' w' (by simp [hsz]) (fun j => by
          by_cases hj : i = j
          · subst hj; simp [hsz, hks]
          · rw [getD_set_ne false hj, hl]
            by_cases h1 : j < i
            · rw [decide_eq_true h1, decide_eq_true (by omega)]
            · rw [decide_eq_false h1, decide_eq_false (by omega)]) h'
      split at h
      · rename_i hw
        rw [if_pos hw]
        exact h.imp (Oper.wp_mono next) id
      · rename_i hw
        rw [if_neg hw]
        exact next _ _ h
theorem head_phase (hs : Region.noSelect ops = true) (hB : ordOK ops = true) {n : Nat} (hn : n ≤ ops.size) (hT : tailOK ops n = true) {a0 : Act} (C : (Nat → Value) → (Nat → Bool) → World → Prop)
    (hstep : ∀ i o, i < n → ops[i]? = some o → ∀ θ L w, C θ L w → L i = false → (∀ j, waits ops i j = true → L j = true) → (∀ j, waits ops j i = true → L j = false) →
      if Region.wanted o (yielded ops (seqTo ops θ a0 i).tmps) then gives P o (seqTo ops θ a0 i) w (fun v w' => C (updV θ i v) (updL L i) w') else C (updV θ i undef) (updL L i) w)
    (hend : ∀ θ L w, C θ L w → (∀ j, L j = decide (j < n)) → wpList P ops Q (ops.toList.drop n) (seqTo ops θ a0 n) w) :
    ∀ (f c : Nat), c + f = ops.size → ∀ (listed : Array Bool) (θ : Nat → Value) (w : World), listed.size = ops.size → (List.range ops.size).countP (fun j => listed.getD j false) = c → ClosedL ops (fun j => listed.getD j false) → (∀ j, n ≤ j → listed.getD j false = false) →
      C θ (fun j => listed.getD j false) w → wpAny P .any ops Q f listed (putTo ops θ (fun j => listed.getD j false) a0 ops.size) w := by
  intro f
  induction f with
  | zero =>
    intro c hc listed θ w hsz hcount hcl htl hC
    -- all have come: so n is the size
    have hall : ∀ j, j < ops.size → listed.getD j false = true := by
      have h1 : (List.range ops.size).countP (fun j => listed.getD j false) = (List.range ops.size).length := by rw [hcount, List.length_range]; omega
      have h2 := List.countP_eq_length.1 h1
      exact fun j hj => h2 j (List.mem_range.2 hj)
    have hnn : n = ops.size := by
      rcases Nat.eq_or_lt_of_le hn with h | h
      · exact h
      · have := htl n (Nat.le_refl _); rw [hall n h] at this; cases this
    have hL : ∀ j, listed.getD j false = decide (j < n) := fun j => by
      by_cases hj : j < n
      · rw [decide_eq_true hj]; exact hall j (by omega)
      · rw [decide_eq_false hj]; exact htl j (by omega)
    rw [putTo_all θ _ a0 ops.size hall]
    have h1 := hend θ _ w hC hL
    have : seqTo ops θ a0 n = seqTo ops θ a0 ops.size := by rw [hnn]
    rw [this] at h1
    exact tail_phase hB hT 0 ops.size (by omega) (by omega) listed _ w hsz (fun j => by rw [hL, hnn]) (by rw [hnn] at h1; exact h1)
  | succ f ih =>
    intro c hc listed θ w hsz hcount hcl htl hC
    by_cases hfull : ∀ j, j < n → listed.getD j false = true
    · have hL : ∀ j, listed.getD j false = decide (j < n) := fun j => by
        by_cases hj : j < n
        · rw [decide_eq_true hj]; exact hfull j hj
        · rw [decide_eq_false hj]; exact htl j (by omega)
      have hcn : c = n := by
        rw [← hcount]
        have e1 : (List.range ops.size).countP (fun j => listed.getD j false) = (List.range ops.size).countP (fun j => decide (j < n)) := List.countP_congr (fun j _ => by rw [hL])
        rw [e1]
        obtain ⟨d, hd⟩ : ∃ d, ops.size = n + d := ⟨ops.size - n, by omega⟩
        rw [hd, List.range_add, List.countP_append, List.countP_eq_length.2 (fun j hj => by simpa using List.mem_range.1 hj), List.length_range, List.countP_eq_zero.2 (fun j hj => by
          obtain ⟨m, _, rfl⟩ := List.mem_map.1 hj
          simp)]
        rfl
      have e2 : putTo ops θ (fun j => listed.getD j false) a0 ops.size = seqTo ops θ a0 n := by
        rw [← putTo_all θ (fun j => listed.getD j false) a0 n hfull]
        obtain ⟨d, hd⟩ : ∃ d, ops.size = n + d := ⟨ops.size - n, by omega⟩
        rw [hd, putTo_stop θ _ a0 n d htl]
      rw [e2]
      exact tail_phase hB hT (f + 1) n (Nat.le_refl _) (by omega) listed _ w hsz hL (hend θ _ w hC hL)
    · refine ⟨fun h0 => ?_, fun i hi => ?_⟩
      · exfalso
        -- the least that hasn't come may come up
        obtain ⟨j, hj, hjl, hmin⟩ : ∃ j, j < n ∧ listed.getD j false = false ∧ ∀ k, k < j → listed.getD k false = true := by
          have hex : ∃ j, j < n ∧ listed.getD j false = false := by
            by_cases h : ∃ j, j < n ∧ listed.getD j false = false
            · exact h
            · exact absurd (fun j hj => by
                cases hb : listed.getD j false with
                | true => rfl
                | false => exact absurd ⟨j, hj, hb⟩ h) hfull
          obtain ⟨j, hj, hb⟩ := hex
          induction j using Nat.strongRecOn with
          | _ j ih2 =>
            by_cases hk : ∃ k, k < j ∧ listed.getD k false = false
            · obtain ⟨k, hkj, hkb⟩ := hk
              exact ih2 k hkj (by omega) hkb
            · exact ⟨j, hj, hb, fun k hkj => by
                cases hb2 : listed.getD k false with
                | true => rfl
                | false => exact absurd ⟨k, hkj, hb2⟩ hk⟩
        have hjs : j < ops.size := by omega
        have : j ∈ Region.ready .any ops listed := by
          rw [mem_ready]
          refine ⟨getD_in (by omega) hjl, ops[j], Array.getElem?_eq_getElem hjs, fun e he hb => ?_⟩
          have hd : direct ops j e.on = true := by
            unfold direct; rw [Array.getElem?_eq_getElem hjs]
            exact Array.any_eq_true'.2 ⟨e, he, by simp [hb]⟩
          exact hmin _ (direct_lt hB hd).1
        rw [h0] at this
        cases this
      · obtain ⟨hi0, o, ho, hall⟩ := mem_ready.1 hi
        have his : i < ops.size := (Array.getElem?_eq_some_iff.1 ho).1
        have hLi := getD_both hi0
        have hdep : ∀ j, direct ops i j = true → listed.getD j false = true := by
          intro j hd
          unfold direct at hd
          rw [ho] at hd
          obtain ⟨e, he, hb⟩ := Array.any_eq_true'.1 hd
          simp only [Bool.and_eq_true, beq_iff_eq] at hb
          have := hall e he hb.1
          rwa [hb.2] at this
        have hdepw : ∀ j, waits ops i j = true → listed.getD j false = true := by
          intro k hk
          have hki := waits_lt hB his hk
          rcases (ordOK_spec hB his (by omega)).1 hk with h1 | ⟨m, hm, hd1, hw⟩
          · exact hdep k h1
          · exact hcl.all hB m (hdep m hd1) k hw
        have hin : i < n := by
          rcases Nat.lt_or_ge i n with h1 | h1
          · exact h1
          · exfalso
            refine hfull fun j hj => hdepw j ?_
            have h2 := List.all_eq_true.1 hT i (List.mem_range.2 his)
            simp only [Bool.or_eq_true, decide_eq_true_eq] at h2
            rcases h2 with h2 | h2
            · omega
            · exact List.all_eq_true.1 h2 j (List.mem_range.2 (by omega))
        have hlater : ∀ j, waits ops j i = true → listed.getD j false = false := by
          intro j hw
          cases hl : listed.getD j false with
          | false => rfl
          | true =>
            have := hcl.all hB j hl i hw
            rw [hLi] at this
            cases this
        have hsee := sees hB ho hLi hcl hdep θ a0
        have hcg := looks_congr (Region.noSelect_spec hs i o · · ho) hsee
        have hst := hstep i o hin ho θ _ w hC hLi hdepw hlater
        have hupd : ∀ v, putTo ops (updV θ i v) (updL (fun j => listed.getD j false) i) a0 ops.size = (putTo ops θ (fun j => listed.getD j false) a0 ops.size).put o.dst v := by
          intro v
          rw [putTo_upd θ _ a0 i v hLi ops.size (fun j hij hj hl t hdi hdj => ?_), if_pos his]
          · simp [dstOf, ho]
          · obtain ⟨oj, hoj, hdj'⟩ : ∃ oj, ops[j]? = some oj ∧ oj.dst = some t := by
              unfold dstOf at hdj
              rw [Array.getElem?_eq_getElem hj] at hdj
              exact ⟨_, Array.getElem?_eq_getElem hj, by simpa using hdj⟩
            have hdi' : o.dst = some t := by simpa [dstOf, ho] using hdi
            have hw := (ordOK_spec hB hj his).2.2 hij (by
              simp only [meets, hoj, ho, Bool.not_eq_true', Oper.apart, hdj', hdi']
              simp)
            have h3 := hlater j hw
            have h4 : listed.getD j false = true := hl
            rw [h3] at h4
            cases h4
        have hfun : ∀ j, (listed.setIfInBounds i true).getD j false = updL (fun j => listed.getD j false) i j := by
          intro j
          by_cases hj : i = j
          · subst hj; simp [updL, hsz, his]
          · rw [getD_set_ne false hj, updL_ne _ (fun e => hj e.symm)]
        have hfun' : (fun j => (listed.setIfInBounds i true).getD j false) = updL (fun j => listed.getD j false) i := funext hfun
        have next : ∀ v w', C (updV θ i v) (updL (fun j => listed.getD j false) i) w' → wpAny P .any ops Q f (listed.setIfInBounds i true) ((putTo ops θ (fun j => listed.getD j false) a0 ops.size).put o.dst v) w' := by
          intro v w' hC'
          rw [← hupd v, ← hfun']
          refine ih (c + 1) (by omega) _ _ w' (by simp [hsz]) ?_ ?_ ?_ (by rw [hfun']; exact hC')
          · rw [hfun']
            have hsplit : ∀ (l : List Nat), l.Nodup → i ∈ l → l.countP (updL (fun j => listed.getD j false) i) = l.countP (fun j => listed.getD j false) + 1 := by
              intro l
              induction l with
              | nil => intro _ h; cases h
              | cons x l ihl =>
                intro hnd hmem
                rw [List.nodup_cons] at hnd
                simp only [List.countP_cons]
                by_cases hx : x = i
                · subst hx
                  have e1 : l.countP (updL (fun j => listed.getD j false) x) = l.countP (fun j => listed.getD j false) := List.countP_congr (fun j hj => by have hjx : j ≠ x := fun e => hnd.1 (e ▸ hj); rw [updL_ne _ hjx])
                  rw [e1, updL_same, hLi]
                  simp
                · have hmem' : i ∈ l := by
                    rcases List.mem_cons.1 hmem with h | h
                    · exact absurd h.symm hx
                    · exact h
                  rw [ihl hnd.2 hmem', updL_ne _ hx]
                  omega
            rw [hsplit _ List.nodup_range (List.mem_range.2 his), hcount]
          · rw [hfun']
            refine ⟨fun j hj => ?_, fun j hj k hd => ?_⟩
            · rw [updL_ne _ (show j ≠ i by omega)]; exact hcl.1 j hj
            · by_cases hji : j = i
              · subst hji
                have := (direct_lt hB hd).1
                rw [updL_ne _ (show k ≠ j by omega)]
                exact hdep k hd
              · rw [updL_ne _ hji] at hj
                by_cases hki : k = i
                · subst hki; exact updL_same _ _
                · rw [updL_ne _ hki]; exact hcl.2 j hj k hd
          · intro j hj
            rw [hfun, updL_ne _ (show j ≠ i by omega)]
            exact htl j hj
        unfold wpOp
        simp only [ho]
        rw [hcg.2]
        split
        · rename_i hw
          rw [if_pos hw] at hst
          refine .inl (gives_wp ?_ next)
          unfold gives at hst ⊢
          rw [hcg.1]
          exact hst
        · rename_i hw
          rw [if_neg hw] at hst
          exact next undef w hst

/-- **A region whose order is open, each operation shown once**: whatever came ahead of it (L), with what that gave (θ); from operation n on the order is forced. -/
theorem wp_region_env {id : Nat} {a0 : Act} {w0 : World} (n : Nat) (hm : P.follows .mixedOrders = true) (hs : Region.noSelect ops = true) (hB : ordOK ops = true) (hn : n ≤ ops.size) (hT : tailOK ops n = true) (C : (Nat → Value) → (Nat → Bool) → World → Prop)
    (h0 : ∃ θ, C θ (fun _ => false) { w0 with drawn := w0.drawn + 1 })
    (hstep : ∀ i o, i < n → ops[i]? = some o → ∀ θ L w, C θ L w → L i = false → (∀ j, waits ops i j = true → L j = true) → (∀ j, waits ops j i = true → L j = false) →
      if Region.wanted o (yielded ops (seqTo ops θ a0 i).tmps) then gives P o (seqTo ops θ a0 i) w (fun v w' => C (updV θ i v) (updL L i) w') else C (updV θ i undef) (updL L i) w)
    (hend : ∀ θ L w, C θ L w → (∀ j, L j = decide (j < n)) → wpList P ops Q (ops.toList.drop n) (seqTo ops θ a0 n) w) :
    (Code.region id ops true).wp P Q a0 w0 := by
  obtain ⟨θ, hC⟩ := h0
  refine wp_region_any hm ?_
  have hfl : (fun j => (Array.replicate ops.size false).getD j false) = fun _ => false := by
    funext j
    rcases Nat.lt_or_ge j ops.size with h | h <;> simp [h]
  have h := head_phase (P := P) (Q := Q) hs hB hn hT C hstep hend ops.size 0 (by omega) (Array.replicate ops.size false) θ { w0 with drawn := w0.drawn + 1 } (by simp) (by rw [hfl]; simp) (by rw [hfl]; exact ⟨fun _ _ => rfl, fun _ h => by cases h⟩) (fun j _ => congrFun hfl j) (by rw [hfl]; exact hC)
  rw [hfl, show putTo ops θ (fun _ => false) a0 ops.size = a0 from by
    have := putTo_stop (ops := ops) θ (fun _ => false) a0 0 ops.size (fun _ _ => rfl)
    rw [Nat.zero_add] at this
    exact this] at h
  exact h

theorem gives_of_quietAt {o : Oper} {a : Act} {C : World → Prop} {w : World} {v : Value} (hw : C w) (h : o.quietAt P a C w v) : gives P o a w (fun u w' => u = v ∧ C w') := by
  unfold Oper.quietAt at h
  unfold gives
  generalize (execOp a.eval o).run P w = r at *
  cases r with
  | halt x w' => simp only [Oper.quietUpon] at h
  | ok n w' =>
    cases n <;> simp only [Oper.quietUpon] at h
    case value u => obtain ⟨rfl, rfl⟩ := h; exact ⟨rfl, hw⟩
    case skip => obtain ⟨rfl, rfl⟩ := h; exact ⟨rfl, hw⟩
    case enter f args =>
      obtain ⟨rfl, hc⟩ := h
      exact hc.mono fun e w'' ⟨he, hw''⟩ => ⟨v, he, rfl, hw''⟩
theorem quiet_values {C : World → Prop} {E : Act → Prop} {a0 : Act} : ∀ (l : List Oper) (k : Nat) (θ0 : Nat → Value), (∀ j, j < l.length → l[j]? = ops[k + j]?) → wpQuiet P ops C E l (seqTo ops θ0 a0 k) →
    ∃ θ : Nat → Value, (∀ j, j < k → θ j = θ0 j) ∧ (∀ i o, k ≤ i → i < k + l.length → ops[i]? = some o → if Region.wanted o (yielded ops (seqTo ops θ a0 i).tmps) then ∀ w, C w → o.quietAt P (seqTo ops θ a0 i) C w (θ i) else θ i = undef) ∧ E (seqTo ops θ a0 (k + l.length))
  | [], k, θ0, _, h => ⟨θ0, fun _ _ => rfl, fun i o h1 h2 => absurd h2 (by simp; omega), h⟩
  | o :: l, k, θ0, hl, h => by
    have hk : ops[k]? = some o := by simpa using (hl 0 (by simp)).symm
    have hdst : dstOf ops k = o.dst := by simp [dstOf, hk]
    -- the value of this one
    obtain ⟨v, hv, hrest⟩ : ∃ v, (if Region.wanted o (yielded ops (seqTo ops θ0 a0 k).tmps) then ∀ w, C w → o.quietAt P (seqTo ops θ0 a0 k) C w v else v = undef) ∧ wpQuiet P ops C E l ((seqTo ops θ0 a0 k).put o.dst v) := by
      simp only [wpQuiet] at h
      split at h
      · rename_i hw
        obtain ⟨v, h1, h2⟩ := h
        exact ⟨v, by rw [if_pos hw]; exact h1, h2⟩
      · rename_i hw
        exact ⟨undef, by rw [if_neg hw], h⟩
    have e0 : seqTo ops (updV θ0 k v) a0 k = seqTo ops θ0 a0 k := seqTo_congr _ _ _ _ fun j hj => updV_ne _ _ (by omega)
    have e1 : seqTo ops (updV θ0 k v) a0 (k + 1) = (seqTo ops θ0 a0 k).put o.dst v := by simp only [seqTo, e0, updV_same, hdst]
    obtain ⟨θ, h1, h2, h3⟩ := quiet_values l (k + 1) (updV θ0 k v) (fun j hj => by have := hl (j + 1) (by simpa using hj); simpa [Nat.add_assoc, Nat.add_comm 1 j] using this) (by rw [e1]; exact hrest)
    have e2 : seqTo ops θ a0 k = seqTo ops θ0 a0 k := (seqTo_congr _ _ _ _ fun j hj => h1 j (by omega)).trans e0
    refine ⟨θ, fun j hj => by rw [h1 j (by omega), updV_ne _ _ (by omega)], fun i o' hi1 hi2 ho' => ?_, by rw [show k + (o :: l).length = k + 1 + l.length by simp; omega]; exact h3⟩
    rcases Nat.eq_or_lt_of_le hi1 with h4 | h4
    · subst h4
      rw [hk] at ho'
      cases ho'
      rw [e2, h1 k (by omega), updV_same]
      exact hv
    · exact h2 i o' h4 (by simp at hi2; omega) ho'
/-- **Head and tail**: the first n operations only read and call what makes blocks of its own, in whatever order; the rest is one behind the other. -/
theorem wp_region_tail {id : Nat} {a0 : Act} {w0 : World} {l : List Oper} (n : Nat) (C : World → Prop) (hm : P.follows .mixedOrders = true) (hs : Region.noSelect l.toArray = true) (hB : ordOK l.toArray = true) (hn : n ≤ l.toArray.size) (hT : tailOK l.toArray n = true)
    (hC : C { w0 with drawn := w0.drawn + 1 }) (h : wpQuiet P l.toArray C (fun a => ∀ w, C w → wpList P l.toArray Q (l.drop n) a w) (l.take n) a0) : (Code.region id l.toArray true).wp P Q a0 w0 := by
  have hlen : n ≤ l.length := by simpa using hn
  obtain ⟨θ, _, hθ, hE⟩ := quiet_values (ops := l.toArray) (a0 := a0) (l.take n) 0 (fun _ => undef) (fun j hj => by
    have hj' : j < n := by simp at hj; omega
    simp [List.getElem?_take, hj']) h
  have hl0 : 0 + (l.take n).length = n := by simp; omega
  rw [hl0] at hE
  refine wp_region_env n hm hs hB hn hT (fun θ' _ w => θ' = θ ∧ C w) ⟨θ, rfl, hC⟩ ?_ ?_
  · intro i o hi ho θ' L w hc _ _ _
    obtain ⟨rfl, hw⟩ := hc
    have h1 := hθ i o (Nat.zero_le _) (by omega) ho
    split
    · rename_i hwt
      rw [if_pos hwt] at h1
      have h2 := gives_of_quietAt hw (h1 w hw)
      unfold gives at h2 ⊢
      generalize (execOp (seqTo l.toArray θ' a0 i).eval o).run P w = r at *
      have hu : ∀ v, v = θ' i → updV θ' i v = θ' := fun v hv => funext fun j => by unfold updV; split <;> simp_all
      cases r with
      | halt x w' => exact h2
      | ok nx w' =>
        cases nx with
        | value u => exact ⟨hu _ h2.1, h2.2⟩
        | skip => exact ⟨hu _ h2.1, h2.2⟩
        | enter f args => exact Calls.mono h2 (fun e w'' ⟨v, he, hv, hw''⟩ => ⟨v, he, hu v hv, hw''⟩)
        | _ => exact h2.elim
    · rename_i hwt
      rw [if_neg hwt] at h1
      exact ⟨funext fun j => by unfold updV; split <;> simp_all, hw⟩
  · intro θ' L w hc _
    obtain ⟨rfl, hw⟩ := hc
    simpa using hE w hw
open Go.Sort in
/-- .. at the class 'of what was there nothing has turned'. -/
theorem wp_region_tail_below {id : Nat} {a0 : Act} {w0 : World} {l : List Oper} (n : Nat) (hm : P.follows .mixedOrders = true) (hs : Region.noSelect l.toArray = true) (hB : ordOK l.toArray = true) (hn : n ≤ l.toArray.size) (hT : tailOK l.toArray n = true)
    (h : wpQuiet P l.toArray (fun w' => ∃ p : Regrown, w' = grow (redrawn w0 p.d) p.os) (fun a => ∀ w, (∃ p : Regrown, w = grow (redrawn w0 p.d) p.os) → wpList P l.toArray Q (l.drop n) a w) (l.take n) a0) : (Code.region id l.toArray true).wp P Q a0 w0 :=
  wp_region_tail n _ hm hs hB hn hT ⟨⟨w0.drawn + 1, #[]⟩, by rw [grow_empty]; rfl⟩ h
end
end Go.Proofs.YtffcpmohanhihaaGreatDoor
