/-
  Maps of whatever elements: a map's block as the list of its entries; a look-up, a store at the operation. Condition: each key is one that a map may have, and stands once.
  Lists that many edit, plain: rows of names that hang on names, as a forest; what is told in order. No condition.
-/
import Derived.Test.YtffcpmohanhihaaGreatDoorJ6
import Derived.Maps.Keyed
import Derived.Maps.Own
namespace Go.Proofs.YtffcpmohanhihaaGreatDoor
open Go.RowKit
set_option linter.unusedVariables false
set_option linter.unusedSimpArgs false
set_option linter.unusedSectionVars false
section
variable {K V : Type} [DecidableEq K]
/-- What a list of pairs has at a key. -/
def assoc : List (K × V) → K → Option V
  | [], _ => none
  | (a, b) :: r, k => if a = k then some b else assoc r k
/-- The pair at a key turned; or one more, behind all. -/
def assocPut : List (K × V) → K → V → List (K × V)
  | [], k, v => [(k, v)]
  | (a, b) :: r, k, v => if a = k then (k, v) :: r else (a, b) :: assocPut r k v
theorem assoc_put (l : List (K × V)) (k k' : K) (v : V) : assoc (assocPut l k v) k' = if k = k' then some v else assoc l k' := by
  induction l with
  | nil => simp [assoc, assocPut]
  | cons p r ih =>
    obtain ⟨a, b⟩ := p
    simp only [assocPut]
    by_cases h : a = k
    · subst h
      simp only [if_true, assoc]
      split <;> rfl
    · simp only [if_neg h, assoc]
      by_cases h2 : a = k'
      · subst h2
        rw [if_pos rfl, if_neg (fun e => h e.symm), if_pos rfl]
      · rw [if_neg h2, ih, if_neg h2]
theorem assoc_same (l : List (K × V)) (k : K) (v : V) : assoc (assocPut l k v) k = some v := by rw [assoc_put, if_pos rfl]
theorem assoc_other (l : List (K × V)) {k k' : K} (v : V) (h : k ≠ k') : assoc (assocPut l k v) k' = assoc l k' := by rw [assoc_put, if_neg h]
theorem assoc_mem {l : List (K × V)} {k : K} {v : V} (h : assoc l k = some v) : (k, v) ∈ l := by
  induction l with
  | nil => cases h
  | cons p r ih =>
    obtain ⟨a, b⟩ := p
    simp only [assoc] at h
    split at h
    · rename_i e
      subst e
      cases h
      exact List.mem_cons_self ..
    · exact List.mem_cons_of_mem _ (ih h)
theorem assoc_none {l : List (K × V)} {k : K} : assoc l k = none ↔ k ∉ l.map Prod.fst := by
  induction l with
  | nil => simp [assoc]
  | cons p r ih =>
    obtain ⟨a, b⟩ := p
    simp only [assoc, List.map_cons, List.mem_cons, not_or]
    by_cases h : a = k
    · subst h; simp
    · rw [if_neg h, ih]
      exact ⟨fun h2 => ⟨fun e => h e.symm, h2⟩, fun h2 => h2.2⟩
theorem assoc_of_mem {l : List (K × V)} (hn : (l.map Prod.fst).Nodup) {k : K} {v : V} (h : (k, v) ∈ l) : assoc l k = some v := by
  induction l with
  | nil => cases h
  | cons p r ih =>
    obtain ⟨a, b⟩ := p
    rw [List.map_cons, List.nodup_cons] at hn
    simp only [assoc]
    rcases List.mem_cons.1 h with h | h
    · cases h
      rw [if_pos rfl]
    · rw [if_neg (fun e => hn.1 (by subst e; exact List.mem_map.2 ⟨_, h, rfl⟩)), ih hn.2 h]
theorem put_keys (l : List (K × V)) (k : K) (v : V) : (assocPut l k v).map Prod.fst = if k ∈ l.map Prod.fst then l.map Prod.fst else l.map Prod.fst ++ [k] := by
  induction l with
  | nil => simp [assocPut]
  | cons p r ih =>
    obtain ⟨a, b⟩ := p
    simp only [assocPut]
    by_cases h : a = k
    · subst h; simp
    · rw [if_neg h, List.map_cons, ih]
      by_cases h2 : k ∈ r.map Prod.fst
      · rw [if_pos h2, if_pos (by simp only [List.map_cons, List.mem_cons]; exact .inr h2), List.map_cons]
      · rw [if_neg h2, if_neg (by simp only [List.map_cons, List.mem_cons, not_or]; exact ⟨fun e => h e.symm, h2⟩), List.map_cons, List.cons_append]
theorem put_nodup {l : List (K × V)} (h : (l.map Prod.fst).Nodup) (k : K) (v : V) : ((assocPut l k v).map Prod.fst).Nodup := by
  rw [put_keys]
  split
  · exact h
  · rename_i h2
    refine List.nodup_append.2 ⟨h, by simp, fun a ha b hb => ?_⟩
    rw [List.mem_singleton] at hb
    subst hb
    exact fun e => h2 (e ▸ ha)
theorem put_mem {l : List (K × V)} {k : K} {v : V} {p : K × V} (h : p ∈ assocPut l k v) : p = (k, v) ∨ p ∈ l := by
  induction l with
  | nil => exact .inl (List.mem_singleton.1 h)
  | cons q r ih =>
    obtain ⟨a, b⟩ := q
    simp only [assocPut] at h
    split at h
    · rcases List.mem_cons.1 h with h | h
      · exact .inl h
      · exact .inr (List.mem_cons_of_mem _ h)
    · rcases List.mem_cons.1 h with h | h
      · exact .inr (by rw [h]; exact List.mem_cons_self ..)
      · rcases ih h with h | h
        · exact .inl h
        · exact .inr (List.mem_cons_of_mem _ h)
theorem put_len (l : List (K × V)) (k : K) (v : V) : (assocPut l k v).length ≤ l.length + 1 := by
  induction l with
  | nil => simp [assocPut]
  | cons p r ih =>
    obtain ⟨a, b⟩ := p
    simp only [assocPut]
    split <;> simp only [List.length_cons] <;> omega
/-- A map's entries, the stamps in the order in which they came. -/
def entsOf (kf : K → Value) (vf : V → Value) : Nat → List (K × V) → List MapEntry
  | _, [] => []
  | n, (a, b) :: r => ⟨kf a, vf b, n⟩ :: entsOf kf vf (n + 1) r
def mapO (kf : K → Value) (vf : V → Value) (l : List (K × V)) : Obj := .map (entsOf kf vf 0 l).toArray l.length
variable {kf : K → Value} {vf : V → Value}
theorem ents_len (n : Nat) (l : List (K × V)) : (entsOf kf vf n l).length = l.length := by
  induction l generalizing n with
  | nil => rfl
  | cons p r ih => obtain ⟨a, b⟩ := p; simp [entsOf, ih]
theorem ents_get (n : Nat) (l : List (K × V)) (i : Nat) : (entsOf kf vf n l)[i]? = (l[i]?).map fun p => ⟨kf p.1, vf p.2, n + i⟩ := by
  induction l generalizing n i with
  | nil => simp [entsOf]
  | cons p r ih =>
    obtain ⟨a, b⟩ := p
    cases i with
    | zero => simp [entsOf]
    | succ i => simp only [entsOf, List.getElem?_cons_succ, ih]; congr 1; funext q; congr 1; omega
theorem ents_mem {n : Nat} {l : List (K × V)} {e : MapEntry} (h : e ∈ entsOf kf vf n l) : ∃ p ∈ l, e.key = kf p.1 ∧ e.val = vf p.2 := by
  obtain ⟨i, hi⟩ := List.getElem?_of_mem h
  rw [ents_get] at hi
  obtain ⟨p, hp, rfl⟩ := Option.map_eq_some_iff.1 hi
  exact ⟨p, List.mem_of_getElem? hp, rfl, rfl⟩
theorem ents_append (n : Nat) (l : List (K × V)) (k : K) (v : V) : entsOf kf vf n (l ++ [(k, v)]) = entsOf kf vf n l ++ [⟨kf k, vf v, n + l.length⟩] := by
  induction l generalizing n with
  | nil => simp [entsOf]
  | cons p r ih => obtain ⟨a, b⟩ := p; simp only [List.cons_append, entsOf, ih, List.length_cons]; congr 3; congr 1; omega
theorem put_new {l : List (K × V)} {k : K} (h : assoc l k = none) (v : V) : assocPut l k v = l ++ [(k, v)] := by
  induction l with
  | nil => rfl
  | cons p r ih =>
    obtain ⟨a, b⟩ := p
    simp only [assoc] at h
    split at h
    · cases h
    · rename_i h2
      simp only [assocPut, if_neg h2, ih h, List.cons_append]
theorem ents_turn (hinj : ∀ a b, kf a = kf b → a = b) (n : Nat) {l : List (K × V)} (hn : (l.map Prod.fst).Nodup) {j : Nat} {e : MapEntry} {k : K} (he : (entsOf kf vf n l)[j]? = some e) (hk : e.key = kf k) :
    ∃ v, assoc l k = some v ∧ e.val = vf v ∧ ∀ v' : V, (entsOf kf vf n l).modify j (fun x => { x with key := kf k, val := vf v' }) = entsOf kf vf n (assocPut l k v') := by
  induction l generalizing n j with
  | nil => simp [entsOf] at he
  | cons p r ih =>
    obtain ⟨a, b⟩ := p
    rw [List.map_cons, List.nodup_cons] at hn
    cases j with
    | zero =>
      simp only [entsOf, List.getElem?_cons_zero, Option.some.injEq] at he
      subst he
      obtain rfl := hinj _ _ hk
      refine ⟨b, by simp [assoc], rfl, fun v' => ?_⟩
      simp [entsOf, assocPut]
    | succ j =>
      simp only [entsOf, List.getElem?_cons_succ] at he
      have hka : a ≠ k := by
        intro h
        subst h
        have h2 := he
        rw [ents_get] at h2
        obtain ⟨p, hp, rfl⟩ := Option.map_eq_some_iff.1 h2
        exact hn.1 (List.mem_map.2 ⟨p, List.mem_of_getElem? hp, hinj _ _ hk⟩)
      obtain ⟨v, h1, h2, h3⟩ := ih (n + 1) hn.2 he
      refine ⟨v, by rw [assoc, if_neg hka]; exact h1, h2, fun v' => ?_⟩
      simp only [entsOf, List.modify_succ_cons, h3, assocPut, if_neg hka]
/-- Keys of a map's type. -/
structure KeyF (P : Program) (kt : TypeId) (kf : K → Value) (Kd : K → Prop) : Prop where
  keyed : Go.Maps.Keyed P kt
  reads : ∀ k, Kd k → ∃ l, keyOf P kt (kf k) = some l
  inj : ∀ a b, kf a = kf b → a = b
structure KeysIn (Kd : K → Prop) (l : List (K × V)) : Prop where
  nodup : (l.map Prod.fst).Nodup
  all : ∀ p ∈ l, Kd p.1
theorem KeysIn.nil {Kd : K → Prop} : KeysIn Kd ([] : List (K × V)) := ⟨List.nodup_nil, fun p hp => by cases hp⟩
theorem KeysIn.put {Kd : K → Prop} {l : List (K × V)} (h : KeysIn Kd l) {k : K} (hk : Kd k) (v : V) : KeysIn Kd (assocPut l k v) :=
  ⟨put_nodup h.nodup k v, fun p hp => by
    rcases put_mem hp with rfl | hp
    · exact hk
    · exact h.all p hp⟩
variable {P : Program} {kt et t : TypeId} {Kd : K → Prop} {w : World} {b : Nat} {l : List (K × V)} {k : K}
theorem run_find (F : KeyF P kt kf Kd) (hl : KeysIn Kd l) (hk : Kd k) (w : World) :
    (assoc l k = none ∧ (Instr.findKey kt (kf k) (entsOf kf vf 0 l)).run P w = .ok none w) ∨
    ∃ j v, assoc l k = some v ∧ (Instr.findKey kt (kf k) (entsOf kf vf 0 l)).run P w = .ok (some (j, vf v)) w ∧ (∃ e, (entsOf kf vf 0 l)[j]? = some e ∧ e.key = kf k) ∧ ∀ v' : V, (entsOf kf vf 0 l).modify j (fun x => { x with key := kf k, val := vf v' }) = entsOf kf vf 0 (assocPut l k v') := by
  obtain ⟨kl, hkl⟩ := F.reads k hk
  rcases F.keyed.find w hkl (entsOf kf vf 0 l) (fun e he => by obtain ⟨p, hp, h1, _⟩ := ents_mem he; rw [h1]; exact F.reads p.1 (hl.all p hp)) with ⟨h1, h2⟩ | ⟨j, e, h1, h2, h3⟩
  · refine .inl ⟨assoc_none.2 fun hm => ?_, h1⟩
    obtain ⟨p, hp, rfl⟩ := List.mem_map.1 hm
    obtain ⟨i, hi⟩ := List.getElem?_of_mem hp
    have h4 : (entsOf kf vf 0 l)[i]? = some ⟨kf p.1, vf p.2, 0 + i⟩ := by rw [ents_get, hi]; rfl
    exact h2 _ (List.mem_of_getElem? h4) rfl
  · obtain ⟨v, g1, g2, g3⟩ := ents_turn F.inj 0 hl.nodup h2 h3
    exact .inr ⟨j, v, g1, by rw [← g2]; exact h1, ⟨e, h2, h3⟩, g3⟩
/-- What a look-up gives. -/
def lookV (c : Bool) (vf : V → Value) (z : Value) : Option V → Value
  | some v => if c then .tuple #[vf v, .bool true] else vf v
  | none => if c then .tuple #[z, .bool false] else z
theorem run_look (F : KeyF P kt kf Kd) (ht : P.underlying t = some (.map kt et)) (hl : KeysIn Kd l) (hk : Kd k) (hb : w.heap[b]? = some (mapO kf vf l)) (c : Bool) {z : Value} (hz : (zeroValue et).run P w = .ok z w) :
    (Instr.lookup t (.map (some b)) (kf k) c).run P w = .ok (lookV c vf z (assoc l k)) w := by
  obtain ⟨kl, hkl⟩ := F.reads k hk
  rcases run_find (vf := vf) F hl hk w with ⟨h1, h2⟩ | ⟨j, v, h1, h2, _, _⟩
  · rw [h1]
    simp [Instr.lookup, run_underlying ht, MapKept.run_getObj_map hb, F.keyed.check w _ hkl, h2, hz, Result.andThen, lookV]
  · rw [h1]
    simp [Instr.lookup, run_underlying ht, MapKept.run_getObj_map hb, F.keyed.check w _ hkl, h2, Result.andThen, lookV]
/-- The world with a block turned. -/
def turnB (w : World) (b : Nat) (o : Obj) : World := { w with heap := w.heap.setIfInBounds b o }
theorem run_update (F : KeyF P kt kf Kd) (ht : P.underlying t = some (.map kt et)) (hl : KeysIn Kd l) (hk : Kd k) (hb : w.heap[b]? = some (mapO kf vf l)) (v : V) :
    (Instr.mapUpdate t (.map (some b)) (kf k) (vf v)).run P w = .ok () (turnB w b (mapO kf vf (assocPut l k v))) := by
  obtain ⟨kl, hkl⟩ := F.reads k hk
  rcases run_find (vf := vf) F hl hk w with ⟨h1, h2⟩ | ⟨j, v0, h1, h2, ⟨e, he, hek⟩, h3⟩
  · have e1 : assocPut l k v = l ++ [(k, v)] := put_new h1 v
    have e2 : (entsOf kf vf 0 l).toArray.push ⟨kf k, vf v, l.length⟩ = (entsOf kf vf 0 (assocPut l k v)).toArray := by
      rw [e1, ents_append]; simp
    have e3 : (assocPut l k v).length = l.length + 1 := by rw [e1]; simp
    simp [Instr.mapUpdate, run_underlying ht, MapKept.run_getObj_map hb, F.keyed.check w false hkl, h2, MapKept.run_setObj_map _ hb, Result.andThen, turnB, mapO, ← e2, e3]
  · have e3 : (assocPut l k v).length = l.length := by
      have h4 := congrArg List.length (put_keys l k v)
      rw [if_pos (by rcases Classical.em (k ∈ l.map Prod.fst) with h5 | h5; exact h5; rw [assoc_none.2 h5] at h1; cases h1)] at h4
      simpa using h4
    simp [Instr.mapUpdate, run_underlying ht, MapKept.run_getObj_map hb, F.keyed.check w false hkl, h2, he, hek, F.keyed.stays w hkl, MapKept.run_setObj_map _ hb, Result.andThen, turnB, mapO, e3, h3 v]
theorem turn_block {o o' : Obj} (hb : w.heap[b]? = some o) : (turnB w b o').heap[b]? = some o' := by
  have h := (Array.getElem?_eq_some_iff.1 hb).1
  simp [turnB, h]
theorem turn_other {o' : Obj} {j : Nat} (h : j ≠ b) : (turnB w b o').heap[j]? = w.heap[j]? := by
  simp only [turnB, Array.getElem?_setIfInBounds]
  rw [if_neg (fun e => h e.symm)]
theorem turn_size (o' : Obj) : (turnB w b o').heap.size = w.heap.size := by simp [turnB]
theorem turn_below (o' : Obj) : Below b w (turnB w b o') := ⟨rfl, rfl, rfl, Nat.le_of_eq (turn_size o').symm, fun j hj => turn_other (by omega)⟩
section
variable {ops : Array Oper} {rest : List Oper} {o : Oper} {a : Act} {Q : Exit → Act → World → Prop}
theorem look_arm (hwt : Region.wanted o (yielded ops a.tmps) = true) (m x : Operand) (c : Bool) (ho : o.op = .lookup t m x c) (F : KeyF P kt kf Kd) (ht : P.underlying t = some (.map kt et)) (hl : KeysIn Kd l) (hk : Kd k)
    (hm : a.eval m = .map (some b)) (hx : a.eval x = kf k) (hb : w.heap[b]? = some (mapO kf vf l)) {z : Value} (hz : (zeroValue et).run P w = .ok z w) {u : Value} (hu : lookV c vf z (assoc l k) = u)
    (h : wpList P ops Q rest (a.put o.dst u) w) : wpList P ops Q (o :: rest) a w :=
  BigFrame.wpList_want hwt fun K' hK' => by
    subst hu
    unfold Oper.wp
    simp only [execOp, ho, hm, hx, Sem.run_bind, run_look F ht hl hk hb c hz, Result.andThen_ok, Sem.run_pure, Oper.upon_value]
    exact hK' _ _ h
/-- .. in a region whose order is open. -/
theorem quiet_look {C : World → Prop} {K' : Act → Prop} (m x : Operand) (c : Bool) (ho : o.op = .lookup t m x c) (F : KeyF P kt kf Kd) (ht : P.underlying t = some (.map kt et)) (hl : KeysIn Kd l) (hk : Kd k)
    (hm : a.eval m = .map (some b)) (hx : a.eval x = kf k) (hb : ∀ w, C w → w.heap[b]? = some (mapO kf vf l)) {z : Value} (hz : ∀ w, (zeroValue et).run P w = .ok z w) {u : Value} (hu : lookV c vf z (assoc l k) = u)
    (h : K' (a.put o.dst u)) : o.quiet P a C K' := by
  subst hu
  refine ⟨_, fun w hw => ?_, h⟩
  unfold Oper.quietAt execOp
  simp only [ho, hm, hx, Sem.run_bind, run_look F ht hl hk (hb w hw) c (hz w), Result.andThen_ok, Sem.run_pure]
  exact ⟨rfl, rfl⟩
theorem update_arm (hwt : Region.wanted o (yielded ops a.tmps) = true) (m x y : Operand) (ho : o.op = .mapUpdate t m x y) (F : KeyF P kt kf Kd) (ht : P.underlying t = some (.map kt et)) (hl : KeysIn Kd l) (hk : Kd k)
    (hm : a.eval m = .map (some b)) (hx : a.eval x = kf k) (v : V) (hv : a.eval y = vf v) (hb : w.heap[b]? = some (mapO kf vf l))
    (h : ∀ w', w'.heap[b]? = some (mapO kf vf (assocPut l k v)) → (∀ j, j ≠ b → w'.heap[j]? = w.heap[j]?) → Below b w w' → w'.heap.size = w.heap.size → wpList P ops Q rest (a.put o.dst (.tuple #[])) w') : wpList P ops Q (o :: rest) a w :=
  BigFrame.wpList_want hwt fun K' hK' => by
    unfold Oper.wp
    simp only [execOp, ho, hm, hx, hv, Sem.run_bind, run_update F ht hl hk hb v, Result.andThen_ok, Sem.run_pure, Oper.upon_value]
    exact hK' _ _ (h _ (turn_block hb) (fun j hj => turn_other hj) (turn_below _) (turn_size _))
end
end
end Go.Proofs.YtffcpmohanhihaaGreatDoor
namespace Go.Proofs.YtffcpmohanhihaaGreatDoor
set_option linter.unusedVariables false
set_option linter.unusedSimpArgs false
/-- A name: a replica's number, and which one of its. -/
abbrev IDk := Int × Int
abbrev zID : IDk := (0, 0)
/-- Trees side by side: a name, what hangs on it, what stands behind it. -/
inductive Fo where
  | nil : Fo
  | cons (id : IDk) (kids rest : Fo) : Fo
def Fo.flat : Fo → List IDk
  | .nil => []
  | .cons i k r => i :: (k.flat ++ r.flat)
def Fo.app : Fo → Fo → Fo
  | .nil, g => g
  | .cons i k r, g => .cons i k (r.app g)
theorem Fo.flat_app (f g : Fo) : (f.app g).flat = f.flat ++ g.flat := by
  induction f with
  | nil => rfl
  | cons i k r _ ih => simp [Fo.app, Fo.flat, ih]
/-- A forest is what rows say of a list of names. -/
def RepL (rw : IDk → List IDk) : List IDk → Fo → Prop
  | [], .nil => True
  | i :: l, .cons j k r => i = j ∧ RepL rw (rw j) k ∧ RepL rw l r
  | [], .cons _ _ _ => False
  | _ :: _, .nil => False
theorem RepL.uniq {rw : IDk → List IDk} : ∀ {l : List IDk} {f g : Fo}, RepL rw l f → RepL rw l g → f = g
  | [], .nil, .nil, _, _ => rfl
  | [], .nil, .cons _ _ _, _, h => h.elim
  | [], .cons _ _ _, _, h, _ => h.elim
  | _ :: _, .nil, _, h, _ => h.elim
  | _ :: _, .cons _ _ _, .nil, _, h => h.elim
  | i :: l, .cons j k r, .cons j2 k2 r2, h1, h2 => by
    obtain ⟨rfl, a1, a2⟩ := h1
    obtain ⟨rfl, b1, b2⟩ := h2
    rw [RepL.uniq a1 b1, RepL.uniq a2 b2]
theorem RepL.app {rw : IDk → List IDk} : ∀ {l m : List IDk} {f g : Fo}, RepL rw l f → RepL rw m g → RepL rw (l ++ m) (f.app g)
  | [], _, .nil, _, _, h => h
  | [], _, .cons _ _ _, _, h, _ => h.elim
  | _ :: _, _, .nil, _, h, _ => h.elim
  | i :: l, m, .cons j k r, g, h1, h2 => ⟨h1.1, h1.2.1, h1.2.2.app h2⟩
theorem RepL.len {rw : IDk → List IDk} : ∀ {l : List IDk} {f : Fo}, RepL rw l f → l.length ≤ f.flat.length
  | [], _, _ => Nat.zero_le _
  | _ :: _, .nil, h => h.elim
  | i :: l, .cons j k r, h => by have := h.2.2.len; simp only [Fo.flat, List.length_cons, List.length_append]; omega
theorem RepL.congr {rw rw2 : IDk → List IDk} (e : ∀ i, rw i = rw2 i) {l : List IDk} {f : Fo} (h : RepL rw l f) : RepL rw2 l f := by
  rw [show rw2 = rw from funext fun i => (e i).symm]; exact h
def insAt (n : Nat) (x : IDk) (l : List IDk) : List IDk := l.take n ++ x :: l.drop n
def Fo.insRow : Nat → IDk → Fo → Fo
  | 0, x, f => .cons x .nil f
  | n + 1, x, .nil => .cons x .nil .nil
  | n + 1, x, .cons i k r => .cons i k (insRow n x r)
def Fo.ins (at_ : IDk) (pos : Nat) (x : IDk) : Fo → Fo
  | .nil => .nil
  | .cons i k r => .cons i (if i = at_ then Fo.insRow pos x (Fo.ins at_ pos x k) else Fo.ins at_ pos x k) (Fo.ins at_ pos x r)
theorem RepL.insRow {rw : IDk → List IDk} {x : IDk} (hx : rw x = []) : ∀ (n : Nat) {l : List IDk} {f : Fo}, RepL rw l f → RepL rw (insAt n x l) (f.insRow n x)
  | 0, l, f, h => by simp only [insAt, List.take_zero, List.nil_append, List.drop_zero, Fo.insRow]; exact ⟨rfl, by rw [hx]; trivial, h⟩
  | n + 1, [], .nil, h => by simp only [insAt, List.take_nil, List.drop_nil, List.nil_append, Fo.insRow]; exact ⟨rfl, by rw [hx]; trivial, trivial⟩
  | n + 1, [], .cons _ _ _, h => h.elim
  | n + 1, _ :: _, .nil, h => h.elim
  | n + 1, i :: l, .cons j k r, h => ⟨h.1, h.2.1, RepL.insRow hx n h.2.2⟩
/-- The rows with one more name in one. -/
def putRow (rw : IDk → List IDk) (at_ : IDk) (pos : Nat) (x : IDk) : IDk → List IDk := fun i => if i = at_ then insAt pos x (rw at_) else rw i
theorem RepL.ins {rw : IDk → List IDk} {at_ x : IDk} {pos : Nat} (hx : rw x = []) (hne : x ≠ at_) : ∀ {l : List IDk} {f : Fo}, RepL rw l f → RepL (putRow rw at_ pos x) l (f.ins at_ pos x)
  | [], .nil, h => trivial
  | [], .cons _ _ _, h => h.elim
  | _ :: _, .nil, h => h.elim
  | i :: l, .cons j k r, h => by
    obtain ⟨rfl, h1, h2⟩ := h
    have hx2 : putRow rw at_ pos x x = [] := by unfold putRow; rw [if_neg hne, hx]
    refine ⟨rfl, ?_, h2.ins hx hne⟩
    by_cases hi : i = at_
    · rw [if_pos hi]
      unfold putRow
      rw [if_pos hi]
      subst hi
      exact RepL.insRow hx2 pos (h1.ins hx hne)
    · rw [if_neg hi]
      show RepL _ (putRow rw at_ pos x i) _
      unfold putRow
      rw [if_neg hi]
      exact h1.ins hx hne
theorem Fo.count_insRow (j x : IDk) : ∀ (n : Nat) (f : Fo), (f.insRow n x).flat.count j = f.flat.count j + if x = j then 1 else 0
  | 0, f => by simp only [Fo.insRow, Fo.flat, List.nil_append, List.count_cons, beq_iff_eq]
  | n + 1, .nil => by simp [Fo.insRow, Fo.flat, List.count_cons]
  | n + 1, .cons i k r => by
    simp only [Fo.insRow, Fo.flat, List.count_cons, List.count_append, Fo.count_insRow j x n r]
    omega
theorem Fo.count_ins (j at_ x : IDk) (n : Nat) : ∀ (f : Fo), (f.ins at_ n x).flat.count j = f.flat.count j + if x = j then f.flat.count at_ else 0
  | .nil => by simp [Fo.ins, Fo.flat]
  | .cons i k r => by
    have h1 := Fo.count_ins j at_ x n k
    have h2 := Fo.count_ins j at_ x n r
    simp only [Fo.ins, Fo.flat, List.count_cons, List.count_append, beq_iff_eq]
    by_cases hi : i = at_
    · rw [if_pos hi, if_pos hi, Fo.count_insRow, h1, h2]
      by_cases hx : x = j
      · rw [if_pos hx, if_pos hx, if_pos hx, if_pos hx]; omega
      · rw [if_neg hx, if_neg hx, if_neg hx, if_neg hx]; omega
    · rw [if_neg hi, if_neg hi, h1, h2]
      by_cases hx : x = j
      · rw [if_pos hx, if_pos hx, if_pos hx]; omega
      · rw [if_neg hx, if_neg hx, if_neg hx]; omega
/-- The forest of all, with one more. -/
def Fo.grow (at_ : IDk) (pos : Nat) (x : IDk) (f : Fo) : Fo := if at_ = zID then Fo.insRow pos x (f.ins at_ pos x) else f.ins at_ pos x
/-- Rows and the names that are there: what stands at all times. -/
structure RowsOk (rw : IDk → List IDk) (E : List IDk) (f : Fo) : Prop where
  rep : RepL rw (rw zID) f
  once : ∀ j, f.flat.count j = if j ∈ E then 1 else 0
  noz : zID ∉ E
  rest : ∀ i, i ≠ zID → i ∉ E → rw i = []
theorem RowsOk.nil : RowsOk (fun _ => []) [] .nil := ⟨trivial, fun j => by simp [Fo.flat], by simp, fun _ _ _ => rfl⟩
theorem RowsOk.grow {rw : IDk → List IDk} {E : List IDk} {f : Fo} (h : RowsOk rw E f) {at_ x : IDk} (pos : Nat) (ha : at_ = zID ∨ at_ ∈ E) (hx : x ∉ E) (hz : x ≠ zID) : RowsOk (putRow rw at_ pos x) (E ++ [x]) (f.grow at_ pos x) := by
  have hr := h.rest x hz hx
  have hne : x ≠ at_ := by rintro rfl; rcases ha with rfl | ha; exact hz rfl; exact hx ha
  have hx2 : putRow rw at_ pos x x = [] := by unfold putRow; rw [if_neg hne, hr]
  refine ⟨?_, fun j => ?_, fun hm => ?_, fun i hi hE => ?_⟩
  · unfold Fo.grow
    split
    · rename_i e
      show RepL _ (putRow rw at_ pos x zID) _
      rw [show putRow rw at_ pos x zID = insAt pos x (rw zID) by unfold putRow; rw [if_pos e.symm, e]]
      exact RepL.insRow hx2 pos (h.rep.ins hr hne)
    · rename_i e
      rw [show putRow rw at_ pos x zID = rw zID by unfold putRow; rw [if_neg (fun q => e q.symm)]]
      exact h.rep.ins hr hne
  · unfold Fo.grow
    have hj : f.flat.count j = if j ∈ E then 1 else 0 := h.once j
    have hat : f.flat.count at_ = if at_ ∈ E then 1 else 0 := h.once at_
    by_cases hxj : x = j
    · subst hxj
      rw [if_neg hx] at hj
      rw [if_pos (show x ∈ E ++ [x] by simp)]
      split
      · rename_i e
        rw [e, if_neg h.noz] at hat
        rw [Fo.count_insRow, Fo.count_ins, if_pos rfl, if_pos rfl, hj, e, hat]
      · rename_i e
        rw [if_pos (ha.resolve_left e)] at hat
        rw [Fo.count_ins, if_pos rfl, hj, hat]
    · have hm : (j ∈ E ++ [x]) ↔ j ∈ E := by simp only [List.mem_append, List.mem_singleton]; exact ⟨fun q => q.resolve_right (fun e => hxj e.symm), .inl⟩
      simp only [hm]
      split
      · rw [Fo.count_insRow, Fo.count_ins, if_neg hxj, if_neg hxj, hj]; rfl
      · rw [Fo.count_ins, if_neg hxj, hj]; rfl
  · rcases List.mem_append.1 hm with hm | hm
    · exact h.noz hm
    · exact hz (List.mem_singleton.1 hm).symm
  · have hi2 : i ∉ E ∧ i ≠ x := ⟨fun q => hE (List.mem_append_left _ q), fun q => hE (by rw [q]; simp)⟩
    unfold putRow
    by_cases e : i = at_
    · subst e
      rcases ha with ha | ha
      · exact absurd ha hi
      · exact absurd ha hi2.1
    · rw [if_neg e]; exact h.rest i hi hi2.1
theorem RowsOk.mem {rw : IDk → List IDk} {E : List IDk} {f : Fo} (h : RowsOk rw E f) (j : IDk) : j ∈ f.flat ↔ j ∈ E := by
  have := h.once j
  rw [← List.count_pos_iff, this]
  split <;> simp_all
theorem RowsOk.nodup {rw : IDk → List IDk} {E : List IDk} {f : Fo} (h : RowsOk rw E f) : f.flat.Nodup := by
  rw [List.nodup_iff_count]
  intro a
  rw [h.once a]
  split <;> omega
theorem nodup_len {α : Type} [DecidableEq α] : ∀ {l m : List α}, l.Nodup → (∀ x ∈ l, x ∈ m) → l.length ≤ m.length
  | [], _, _, _ => Nat.zero_le _
  | a :: l, m, h, hm => by
    rw [List.nodup_cons] at h
    have h1 : l.length ≤ (m.erase a).length := nodup_len h.2 fun x hx => by
      rw [List.mem_erase_of_ne (fun e => h.1 (by rw [← e]; exact hx))]
      exact hm x (List.mem_cons_of_mem _ hx)
    rw [List.length_erase_of_mem (hm a (List.mem_cons_self ..))] at h1
    have := List.length_pos_of_mem (hm a (List.mem_cons_self ..))
    simp only [List.length_cons]; omega
theorem RowsOk.len {rw : IDk → List IDk} {E : List IDk} {f : Fo} (h : RowsOk rw E f) (hE : E.Nodup) : f.flat.length = E.length :=
  Nat.le_antisymm (nodup_len h.nodup fun x hx => (h.mem x).1 hx) (nodup_len hE fun x hx => (h.mem x).2 hx)
end Go.Proofs.YtffcpmohanhihaaGreatDoor
