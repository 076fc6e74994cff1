/-
  Maps of whatever elements: a map's block as the list of its entries; a look-up, a store at the operation. Condition: each key is one that a map may have, and stands once.
-/
import Derived.Test.YteplcnpmdjdlkaaGreatDoorJ7
import Derived.Maps.Keyed
import Derived.Maps.Own
namespace Go.Proofs.YteplcnpmdjdlkaaGreatDoor
open Go.RowKit
set_option linter.unusedVariables false
set_option linter.unusedSimpArgs false
set_option linter.unusedSectionVars false
section
variable {K V : Type} [DecidableEq K]
/-- What a list of pairs has at a key. -/
def assoc : List (K × V) → K → Option V
  | [], _ => none
  | (a, b) :: r, k => if a = k then some b else assoc r k
/-- The pair at a key turned; or one more, behind all. -/
def assocPut : List (K × V) → K → V → List (K × V)
  | [], k, v => [(k, v)]
  | (a, b) :: r, k, v => if a = k then (k, v) :: r else (a, b) :: assocPut r k v
theorem assoc_put (l : List (K × V)) (k k' : K) (v : V) : assoc (assocPut l k v) k' = if k = k' then some v else assoc l k' := by
  induction l with
  | nil => simp [assoc, assocPut]
  | cons p r ih =>
    obtain ⟨a, b⟩ := p
    simp only [assocPut]
    by_cases h : a = k
    · subst h
      simp only [if_true, assoc]
      split <;> rfl
    · simp only [if_neg h, assoc]
      by_cases h2 : a = k'
      · subst h2
        rw [if_pos rfl, if_neg (fun e => h e.symm), if_pos rfl]
      · rw [if_neg h2, ih, if_neg h2]
theorem assoc_same (l : List (K × V)) (k : K) (v : V) : assoc (assocPut l k v) k = some v := by rw [assoc_put, if_pos rfl]
theorem assoc_other (l : List (K × V)) {k k' : K} (v : V) (h : k ≠ k') : assoc (assocPut l k v) k' = assoc l k' := by rw [assoc_put, if_neg h]
theorem assoc_mem {l : List (K × V)} {k : K} {v : V} (h : assoc l k = some v) : (k, v) ∈ l := by
  induction l with
  | nil => cases h
  | cons p r ih =>
    obtain ⟨a, b⟩ := p
    simp only [assoc] at h
    split at h
    · rename_i e
      subst e
      cases h
      exact List.mem_cons_self ..
    · exact List.mem_cons_of_mem _ (ih h)
theorem assoc_none {l : List (K × V)} {k : K} : assoc l k = none ↔ k ∉ l.map Prod.fst := by
  induction l with
  | nil => simp [assoc]
  | cons p r ih =>
    obtain ⟨a, b⟩ := p
    simp only [assoc, List.map_cons, List.mem_cons, not_or]
    by_cases h : a = k
    · subst h; simp
    · rw [if_neg h, ih]
      exact ⟨fun h2 => ⟨fun e => h e.symm, h2⟩, fun h2 => h2.2⟩
theorem assoc_of_mem {l : List (K × V)} (hn : (l.map Prod.fst).Nodup) {k : K} {v : V} (h : (k, v) ∈ l) : assoc l k = some v := by
  induction l with
  | nil => cases h
  | cons p r ih =>
    obtain ⟨a, b⟩ := p
    rw [List.map_cons, List.nodup_cons] at hn
    simp only [assoc]
    rcases List.mem_cons.1 h with h | h
    · cases h
      rw [if_pos rfl]
    · rw [if_neg (fun e => hn.1 (by subst e; exact List.mem_map.2 ⟨_, h, rfl⟩)), ih hn.2 h]
theorem put_keys (l : List (K × V)) (k : K) (v : V) : (assocPut l k v).map Prod.fst = if k ∈ l.map Prod.fst then l.map Prod.fst else l.map Prod.fst ++ [k] := by
  induction l with
  | nil => simp [assocPut]
  | cons p r ih =>
    obtain ⟨a, b⟩ := p
    simp only [assocPut]
    by_cases h : a = k
    · subst h; simp
    · rw [if_neg h, List.map_cons, ih]
      by_cases h2 : k ∈ r.map Prod.fst
      · rw [if_pos h2, if_pos (by simp only [List.map_cons, List.mem_cons]; exact .inr h2), List.map_cons]
      · rw [if_neg h2, if_neg (by simp only [List.map_cons, List.mem_cons, not_or]; exact ⟨fun e => h e.symm, h2⟩), List.map_cons, List.cons_append]
theorem put_nodup {l : List (K × V)} (h : (l.map Prod.fst).Nodup) (k : K) (v : V) : ((assocPut l k v).map Prod.fst).Nodup := by
  rw [put_keys]
  split
  · exact h
  · rename_i h2
    refine List.nodup_append.2 ⟨h, by simp, fun a ha b hb => ?_⟩
    rw [List.mem_singleton] at hb
    subst hb
    exact fun e => h2 (e ▸ ha)
theorem put_mem {l : List (K × V)} {k : K} {v : V} {p : K × V} (h : p ∈ assocPut l k v) : p = (k, v) ∨ p ∈ l := by
  induction l with
  | nil => exact .inl (List.mem_singleton.1 h)
  | cons q r ih =>
    obtain ⟨a, b⟩ := q
    simp only [assocPut] at h
    split at h
    · rcases List.mem_cons.1 h with h | h
      · exact .inl h
      · exact .inr (List.mem_cons_of_mem _ h)
    · rcases List.mem_cons.1 h with h | h
      · exact .inr (by rw [h]; exact List.mem_cons_self ..)
      · rcases ih h with h | h
        · exact .inl h
        · exact .inr (List.mem_cons_of_mem _ h)
theorem put_len (l : List (K × V)) (k : K) (v : V) : (assocPut l k v).length ≤ l.length + 1 := by
  induction l with
  | nil => simp [assocPut]
  | cons p r ih =>
    obtain ⟨a, b⟩ := p
    simp only [assocPut]
    split <;> simp only [List.length_cons] <;> omega
/-- A map's entries, the stamps in the order in which they came. -/
def entsOf (kf : K → Value) (vf : V → Value) : Nat → List (K × V) → List MapEntry
  | _, [] => []
  | n, (a, b) :: r => ⟨kf a, vf b, n⟩ :: entsOf kf vf (n + 1) r
def mapO (kf : K → Value) (vf : V → Value) (l : List (K × V)) : Obj := .map (entsOf kf vf 0 l).toArray l.length
variable {kf : K → Value} {vf : V → Value}
theorem ents_len (n : Nat) (l : List (K × V)) : (entsOf kf vf n l).length = l.length := by
  induction l generalizing n with
  | nil => rfl
  | cons p r ih => obtain ⟨a, b⟩ := p; simp [entsOf, ih]
theorem ents_get (n : Nat) (l : List (K × V)) (i : Nat) : (entsOf kf vf n l)[i]? = (l[i]?).map fun p => ⟨kf p.1, vf p.2, n + i⟩ := by
  induction l generalizing n i with
  | nil => simp [entsOf]
  | cons p r ih =>
    obtain ⟨a, b⟩ := p
    cases i with
    | zero => simp [entsOf]
    | succ i => simp only [entsOf, List.getElem?_cons_succ, ih]; congr 1; funext q; congr 1; omega
theorem ents_mem {n : Nat} {l : List (K × V)} {e : MapEntry} (h : e ∈ entsOf kf vf n l) : ∃ p ∈ l, e.key = kf p.1 ∧ e.val = vf p.2 := by
  obtain ⟨i, hi⟩ := List.getElem?_of_mem h
  rw [ents_get] at hi
  obtain ⟨p, hp, rfl⟩ := Option.map_eq_some_iff.1 hi
  exact ⟨p, List.mem_of_getElem? hp, rfl, rfl⟩
theorem ents_append (n : Nat) (l : List (K × V)) (k : K) (v : V) : entsOf kf vf n (l ++ [(k, v)]) = entsOf kf vf n l ++ [⟨kf k, vf v, n + l.length⟩] := by
  induction l generalizing n with
  | nil => simp [entsOf]
  | cons p r ih => obtain ⟨a, b⟩ := p; simp only [List.cons_append, entsOf, ih, List.length_cons]; congr 3; congr 1; omega
theorem put_new {l : List (K × V)} {k : K} (h : assoc l k = none) (v : V) : assocPut l k v = l ++ [(k, v)] := by
  induction l with
  | nil => rfl
  | cons p r ih =>
    obtain ⟨a, b⟩ := p
    simp only [assoc] at h
    split at h
    · cases h
    · rename_i h2
      simp only [assocPut, if_neg h2, ih h, List.cons_append]
theorem ents_turn (hinj : ∀ a b, kf a = kf b → a = b) (n : Nat) {l : List (K × V)} (hn : (l.map Prod.fst).Nodup) {j : Nat} {e : MapEntry} {k : K} (he : (entsOf kf vf n l)[j]? = some e) (hk : e.key = kf k) :
    ∃ v, assoc l k = some v ∧ e.val = vf v ∧ ∀ v' : V, (entsOf kf vf n l).modify j (fun x => { x with key := kf k, val := vf v' }) = entsOf kf vf n (assocPut l k v') := by
  induction l generalizing n j with
  | nil => simp [entsOf] at he
  | cons p r ih =>
    obtain ⟨a, b⟩ := p
    rw [List.map_cons, List.nodup_cons] at hn
    cases j with
    | zero =>
      simp only [entsOf, List.getElem?_cons_zero, Option.some.injEq] at he
      subst he
      obtain rfl := hinj _ _ hk
      refine ⟨b, by simp [assoc], rfl, fun v' => ?_⟩
      simp [entsOf, assocPut]
    | succ j =>
      simp only [entsOf, List.getElem?_cons_succ] at he
      have hka : a ≠ k := by
        intro h
        subst h
        have h2 := he
        rw [ents_get] at h2
        obtain ⟨p, hp, rfl⟩ := Option.map_eq_some_iff.1 h2
        exact hn.1 (List.mem_map.2 ⟨p, List.mem_of_getElem? hp, hinj _ _ hk⟩)
      obtain ⟨v, h1, h2, h3⟩ := ih (n + 1) hn.2 he
      refine ⟨v, by rw [assoc, if_neg hka]; exact h1, h2, fun v' => ?_⟩
      simp only [entsOf, List.modify_succ_cons, h3, assocPut, if_neg hka]
/-- Keys of a map's type. -/
structure KeyF (P : Program) (kt : TypeId) (kf : K → Value) (Kd : K → Prop) : Prop where
  keyed : Go.Maps.Keyed P kt
  reads : ∀ k, Kd k → ∃ l, keyOf P kt (kf k) = some l
  inj : ∀ a b, kf a = kf b → a = b
structure KeysIn (Kd : K → Prop) (l : List (K × V)) : Prop where
  nodup : (l.map Prod.fst).Nodup
  all : ∀ p ∈ l, Kd p.1
theorem KeysIn.nil {Kd : K → Prop} : KeysIn Kd ([] : List (K × V)) := ⟨List.nodup_nil, fun p hp => by cases hp⟩
theorem KeysIn.put {Kd : K → Prop} {l : List (K × V)} (h : KeysIn Kd l) {k : K} (hk : Kd k) (v : V) : KeysIn Kd (assocPut l k v) :=
  ⟨put_nodup h.nodup k v, fun p hp => by
    rcases put_mem hp with rfl | hp
    · exact hk
    · exact h.all p hp⟩
variable {P : Program} {kt et t : TypeId} {Kd : K → Prop} {w : World} {b : Nat} {l : List (K × V)} {k : K}
theorem run_find (F : KeyF P kt kf Kd) (hl : KeysIn Kd l) (hk : Kd k) (w : World) :
    (assoc l k = none ∧ (Instr.findKey kt (kf k) (entsOf kf vf 0 l)).run P w = .ok none w) ∨
    ∃ j v, assoc l k = some v ∧ (Instr.findKey kt (kf k) (entsOf kf vf 0 l)).run P w = .ok (some (j, vf v)) w ∧ (∃ e, (entsOf kf vf 0 l)[j]? = some e ∧ e.key = kf k) ∧ ∀ v' : V, (entsOf kf vf 0 l).modify j (fun x => { x with key := kf k, val := vf v' }) = entsOf kf vf 0 (assocPut l k v') := by
  obtain ⟨kl, hkl⟩ := F.reads k hk
  rcases F.keyed.find w hkl (entsOf kf vf 0 l) (fun e he => by obtain ⟨p, hp, h1, _⟩ := ents_mem he; rw [h1]; exact F.reads p.1 (hl.all p hp)) with ⟨h1, h2⟩ | ⟨j, e, h1, h2, h3⟩
  · refine .inl ⟨assoc_none.2 fun hm => ?_, h1⟩
    obtain ⟨p, hp, rfl⟩ := List.mem_map.1 hm
    obtain ⟨i, hi⟩ := List.getElem?_of_mem hp
    have h4 : (entsOf kf vf 0 l)[i]? = some ⟨kf p.1, vf p.2, 0 + i⟩ := by rw [ents_get, hi]; rfl
    exact h2 _ (List.mem_of_getElem? h4) rfl
  · obtain ⟨v, g1, g2, g3⟩ := ents_turn F.inj 0 hl.nodup h2 h3
    exact .inr ⟨j, v, g1, by rw [← g2]; exact h1, ⟨e, h2, h3⟩, g3⟩
/-- What a look-up gives. -/
def lookV (c : Bool) (vf : V → Value) (z : Value) : Option V → Value
  | some v => if c then .tuple #[vf v, .bool true] else vf v
  | none => if c then .tuple #[z, .bool false] else z
theorem run_look (F : KeyF P kt kf Kd) (ht : P.underlying t = some (.map kt et)) (hl : KeysIn Kd l) (hk : Kd k) (hb : w.heap[b]? = some (mapO kf vf l)) (c : Bool) {z : Value} (hz : (zeroValue et).run P w = .ok z w) :
    (Instr.lookup t (.map (some b)) (kf k) c).run P w = .ok (lookV c vf z (assoc l k)) w := by
  obtain ⟨kl, hkl⟩ := F.reads k hk
  rcases run_find (vf := vf) F hl hk w with ⟨h1, h2⟩ | ⟨j, v, h1, h2, _, _⟩
  · rw [h1]
    simp [Instr.lookup, run_underlying ht, MapKept.run_getObj_map hb, F.keyed.check w _ hkl, h2, hz, Result.andThen, lookV]
  · rw [h1]
    simp [Instr.lookup, run_underlying ht, MapKept.run_getObj_map hb, F.keyed.check w _ hkl, h2, Result.andThen, lookV]
/-- The world with a block turned. -/
def turnB (w : World) (b : Nat) (o : Obj) : World := { w with heap := w.heap.setIfInBounds b o }
theorem run_update (F : KeyF P kt kf Kd) (ht : P.underlying t = some (.map kt et)) (hl : KeysIn Kd l) (hk : Kd k) (hb : w.heap[b]? = some (mapO kf vf l)) (v : V) :
    (Instr.mapUpdate t (.map (some b)) (kf k) (vf v)).run P w = .ok () (turnB w b (mapO kf vf (assocPut l k v))) := by
  obtain ⟨kl, hkl⟩ := F.reads k hk
  rcases run_find (vf := vf) F hl hk w with ⟨h1, h2⟩ | ⟨j, v0, h1, h2, ⟨e, he, hek⟩, h3⟩
  · have e1 : assocPut l k v = l ++ [(k, v)] := put_new h1 v
    have e2 : (entsOf kf vf 0 l).toArray.push ⟨kf k, vf v, l.length⟩ = (entsOf kf vf 0 (assocPut l k v)).toArray := by
      rw [e1, ents_append]; simp
    have e3 : (assocPut l k v).length = l.length + 1 := by rw [e1]; simp
    simp [Instr.mapUpdate, run_underlying ht, MapKept.run_getObj_map hb, F.keyed.check w false hkl, h2, MapKept.run_setObj_map _ hb, Result.andThen, turnB, mapO, ← e2, e3]
  · have e3 : (assocPut l k v).length = l.length := by
      have h4 := congrArg List.length (put_keys l k v)
      rw [if_pos (by rcases Classical.em (k ∈ l.map Prod.fst) with h5 | h5; exact h5; rw [assoc_none.2 h5] at h1; cases h1)] at h4
      simpa using h4
    simp [Instr.mapUpdate, run_underlying ht, MapKept.run_getObj_map hb, F.keyed.check w false hkl, h2, he, hek, F.keyed.stays w hkl, MapKept.run_setObj_map _ hb, Result.andThen, turnB, mapO, e3, h3 v]
theorem turn_block {o o' : Obj} (hb : w.heap[b]? = some o) : (turnB w b o').heap[b]? = some o' := by
  have h := (Array.getElem?_eq_some_iff.1 hb).1
  simp [turnB, h]
theorem turn_other {o' : Obj} {j : Nat} (h : j ≠ b) : (turnB w b o').heap[j]? = w.heap[j]? := by
  simp only [turnB, Array.getElem?_setIfInBounds]
  rw [if_neg (fun e => h e.symm)]
theorem turn_size (o' : Obj) : (turnB w b o').heap.size = w.heap.size := by simp [turnB]
theorem turn_below (o' : Obj) : Below b w (turnB w b o') := ⟨rfl, rfl, rfl, Nat.le_of_eq (turn_size o').symm, fun j hj => turn_other (by omega)⟩
section
variable {ops : Array Oper} {rest : List Oper} {o : Oper} {a : Act} {Q : Exit → Act → World → Prop}
theorem look_arm (hwt : Region.wanted o (yielded ops a.tmps) = true) (m x : Operand) (c : Bool) (ho : o.op = .lookup t m x c) (F : KeyF P kt kf Kd) (ht : P.underlying t = some (.map kt et)) (hl : KeysIn Kd l) (hk : Kd k)
    (hm : a.eval m = .map (some b)) (hx : a.eval x = kf k) (hb : w.heap[b]? = some (mapO kf vf l)) {z : Value} (hz : (zeroValue et).run P w = .ok z w) {u : Value} (hu : lookV c vf z (assoc l k) = u)
    (h : wpList P ops Q rest (a.put o.dst u) w) : wpList P ops Q (o :: rest) a w :=
  BigFrame.wpList_want hwt fun K' hK' => by
    subst hu
    unfold Oper.wp
    simp only [execOp, ho, hm, hx, Sem.run_bind, run_look F ht hl hk hb c hz, Result.andThen_ok, Sem.run_pure, Oper.upon_value]
    exact hK' _ _ h
/-- .. in a region whose order is open. -/
theorem quiet_look {C : World → Prop} {K' : Act → Prop} (m x : Operand) (c : Bool) (ho : o.op = .lookup t m x c) (F : KeyF P kt kf Kd) (ht : P.underlying t = some (.map kt et)) (hl : KeysIn Kd l) (hk : Kd k)
    (hm : a.eval m = .map (some b)) (hx : a.eval x = kf k) (hb : ∀ w, C w → w.heap[b]? = some (mapO kf vf l)) {z : Value} (hz : ∀ w, (zeroValue et).run P w = .ok z w) {u : Value} (hu : lookV c vf z (assoc l k) = u)
    (h : K' (a.put o.dst u)) : o.quiet P a C K' := by
  subst hu
  refine ⟨_, fun w hw => ?_, h⟩
  unfold Oper.quietAt execOp
  simp only [ho, hm, hx, Sem.run_bind, run_look F ht hl hk (hb w hw) c (hz w), Result.andThen_ok, Sem.run_pure]
  exact ⟨rfl, rfl⟩
theorem update_arm (hwt : Region.wanted o (yielded ops a.tmps) = true) (m x y : Operand) (ho : o.op = .mapUpdate t m x y) (F : KeyF P kt kf Kd) (ht : P.underlying t = some (.map kt et)) (hl : KeysIn Kd l) (hk : Kd k)
    (hm : a.eval m = .map (some b)) (hx : a.eval x = kf k) (v : V) (hv : a.eval y = vf v) (hb : w.heap[b]? = some (mapO kf vf l))
    (h : ∀ w', w'.heap[b]? = some (mapO kf vf (assocPut l k v)) → (∀ j, j ≠ b → w'.heap[j]? = w.heap[j]?) → Below b w w' → w'.heap.size = w.heap.size → wpList P ops Q rest (a.put o.dst (.tuple #[])) w') : wpList P ops Q (o :: rest) a w :=
  BigFrame.wpList_want hwt fun K' hK' => by
    unfold Oper.wp
    simp only [execOp, ho, hm, hx, hv, Sem.run_bind, run_update F ht hl hk hb v, Result.andThen_ok, Sem.run_pure, Oper.upon_value]
    exact hK' _ _ (h _ (turn_block hb) (fun j hj => turn_other hj) (turn_below _) (turn_size _))
end
end
end Go.Proofs.YteplcnpmdjdlkaaGreatDoor
