/-
  The shelf's contracts at this dump, in plain words. No condition.
  Maps of whatever elements: a map's block as the list of its entries; a look-up, a store at the operation. Condition: each key is one that a map may have, and stands once.
  slices.Sorted(maps.Keys(m)) over a map of operations by strings; maps.Clone of it. Condition: each key stands once.
-/
import Derived.Shelf.SlIter.Nil
import Derived.Shelf.SortM.Plain
import Derived.Shelf.SortM.SortNone
import Derived.Shelf.SlMaps.Clone
import Derived.Ground.GgzProg
import Derived.Ground.SlgmProg
import Derived.Ground.SlmcProg
import Derived.Test.YteplcnpmdjdlkaaGreatDoorProg
import Derived.Test.YteplcnpmdjdlkaaGreatDoorJ7
import Derived.Maps.Keyed
import Derived.Maps.Own
import Derived.Test.YteplcnpmdjdlkaaGreatDoorJ12
namespace Go.Proofs
open Go.Shelf
def Tryz.keysA_ren : Go.Shelf.Ren := ⟨fun | 7 => 26 | 10 => 42 | n => n, fun | 23 => 56 | 26 => 9 | 3 => 36 | 28 => 62 | 0 => 0 | 27 => 61 | 33 => 53 | 4 => 4 | n => n, fun | n => n⟩
theorem Tryz.keysA : Go.Proofs.SlLaysZ.n7 Tryz.prog Tryz.keysA_ren := {
  mixed := by kernel_rfl
  f7 := ⟨Tryz.f26.name, by decide, Tryz.func26.trans (congrArg some (by kernel_rfl))⟩
  f10 := ⟨Tryz.f42.name, by decide, Tryz.func42.trans (congrArg some (by kernel_rfl))⟩
  t0 := Tryz.underlying0
  a0 := Tryz.isAgg0
  z0 := Tryz.sizeOf0
  v0 := Tryz.zeroValue0
  t4 := Tryz.underlying4
  a4 := Tryz.isAgg4
  z4 := Tryz.sizeOf4
  v4 := Tryz.zeroValue4
  t23 := Tryz.underlying56
  a23 := Tryz.isAgg56
  z23 := Tryz.sizeOf56
  v23 := Tryz.zeroValue56
  t26 := Tryz.underlying9
  a26 := Tryz.isAgg9
  z26 := Tryz.sizeOf9
  v26 := Tryz.zeroValue9
  t27 := Tryz.underlying61
  a27 := Tryz.isAgg61
  z27 := Tryz.sizeOf61
  v27 := Tryz.zeroValue61
  t28 := Tryz.underlying62
  a28 := Tryz.isAgg62
  z28 := Tryz.sizeOf62
  v28 := Tryz.zeroValue62
  t33 := Tryz.underlying53
  a33 := Tryz.isAgg53
  z33 := Tryz.sizeOf53
  v33 := Tryz.zeroValue53 }
def Tryz.sortedA_ren : Go.Shelf.Ren := ⟨fun | 6 => 25 | 8 => 40 | 9 => 41 | 11 => 56 | 13 => 58 | 12 => 57 | 23 => 81 | 24 => 82 | 14 => 72 | 15 => 73 | 16 => 74 | 17 => 75 | 18 => 76 | 19 => 77 | 20 => 78 | 21 => 79 | 22 => 80 | 25 => 91 | 26 => 92 | 27 => 93 | 28 => 94 | 29 => 95 | 30 => 96 | 31 => 102 | n => n, fun | 26 => 9 | 28 => 62 | 24 => 43 | 0 => 0 | 3 => 3 | 37 => 89 | 48 => 115 | 50 => 117 | 4 => 4 | 40 => 108 | 39 => 107 | 45 => 70 | 5 => 5 | 9 => 9 | 51 => 126 | 55 => 130 | 57 => 133 | 58 => 80 | 33 => 53 | n => n, fun | n => n⟩
theorem Tryz.sortedA : Go.Proofs.SlLaysZ.n6 Tryz.prog Tryz.sortedA_ren := {
  mixed := by kernel_rfl
  f6 := ⟨Tryz.f25.name, by decide, Tryz.func25.trans (congrArg some (by kernel_rfl))⟩
  f8 := ⟨Tryz.f40.name, by decide, Tryz.func40.trans (congrArg some (by kernel_rfl))⟩
  f11 := ⟨Tryz.f56.name, by decide, Tryz.func56.trans (congrArg some (by kernel_rfl))⟩
  t0 := Tryz.underlying0
  a0 := Tryz.isAgg0
  z0 := Tryz.sizeOf0
  v0 := Tryz.zeroValue0
  t24 := Tryz.underlying43
  a24 := Tryz.isAgg43
  z24 := Tryz.sizeOf43
  v24 := Tryz.zeroValue43
  t26 := Tryz.underlying9
  a26 := Tryz.isAgg9
  z26 := Tryz.sizeOf9
  v26 := Tryz.zeroValue9
  t28 := Tryz.underlying62
  a28 := Tryz.isAgg62
  z28 := Tryz.sizeOf62
  v28 := Tryz.zeroValue62
  i26 := by kernel_rfl }
def Tryz.sortA_ren : Go.Shelf.Ren := ⟨fun | 6 => 41 | 8 => 58 | 9 => 57 | 19 => 81 | 20 => 82 | 21 => 72 | 22 => 73 | 23 => 74 | 24 => 75 | 25 => 76 | 26 => 77 | 27 => 78 | 28 => 79 | 29 => 80 | 36 => 91 | 31 => 92 | 32 => 93 | 37 => 94 | 38 => 95 | 39 => 96 | 41 => 102 | n => n, fun | 27 => 43 | 29 => 9 | 3 => 3 | 32 => 89 | 26 => 43 | 0 => 0 | 44 => 115 | 46 => 117 | 4 => 4 | 36 => 108 | 35 => 107 | 41 => 70 | 5 => 5 | 9 => 9 | 53 => 126 | 57 => 130 | 63 => 133 | 64 => 80 | n => n, fun | n => n⟩
theorem Tryz.sortA : Go.Proofs.SlLaysM.n6 Tryz.prog Tryz.sortA_ren := {
  mixed := by kernel_rfl
  f6 := ⟨Tryz.f41.name, by decide, Tryz.func41.trans (congrArg some (by kernel_rfl))⟩
  f8 := Tryz.func58.trans (congrArg some (by kernel_rfl))
  f9 := ⟨Tryz.f57.name, by decide, Tryz.func57.trans (congrArg some (by kernel_rfl))⟩
  f19 := Tryz.func81.trans (congrArg some (by kernel_rfl))
  f20 := Tryz.func82.trans (congrArg some (by kernel_rfl))
  f21 := ⟨Tryz.f72.name, by decide, Tryz.func72.trans (congrArg some (by kernel_rfl))⟩
  f22 := ⟨Tryz.f73.name, by decide, Tryz.func73.trans (congrArg some (by kernel_rfl))⟩
  f23 := ⟨Tryz.f74.name, by decide, Tryz.func74.trans (congrArg some (by kernel_rfl))⟩
  f24 := ⟨Tryz.f75.name, by decide, Tryz.func75.trans (congrArg some (by kernel_rfl))⟩
  f25 := ⟨Tryz.f76.name, by decide, Tryz.func76.trans (congrArg some (by kernel_rfl))⟩
  f26 := ⟨Tryz.f77.name, by decide, Tryz.func77.trans (congrArg some (by kernel_rfl))⟩
  f27 := ⟨Tryz.f78.name, by decide, Tryz.func78.trans (congrArg some (by kernel_rfl))⟩
  f28 := ⟨Tryz.f79.name, by decide, Tryz.func79.trans (congrArg some (by kernel_rfl))⟩
  f29 := ⟨Tryz.f80.name, by decide, Tryz.func80.trans (congrArg some (by kernel_rfl))⟩
  f31 := Tryz.func92.trans (congrArg some (by kernel_rfl))
  f32 := Tryz.func93.trans (congrArg some (by kernel_rfl))
  f36 := ⟨Tryz.f91.name, by decide, Tryz.func91.trans (congrArg some (by kernel_rfl))⟩
  f37 := ⟨Tryz.f94.name, by decide, Tryz.func94.trans (congrArg some (by kernel_rfl))⟩
  f38 := ⟨Tryz.f95.name, by decide, Tryz.func95.trans (congrArg some (by kernel_rfl))⟩
  f39 := ⟨Tryz.f96.name, by decide, Tryz.func96.trans (congrArg some (by kernel_rfl))⟩
  f41 := ⟨Tryz.f102.name, by decide, Tryz.func102.trans (congrArg some (by kernel_rfl))⟩
  t0 := Tryz.underlying0
  a0 := Tryz.isAgg0
  z0 := Tryz.sizeOf0
  v0 := Tryz.zeroValue0
  t3 := Tryz.underlying3
  a3 := Tryz.isAgg3
  z3 := Tryz.sizeOf3
  v3 := Tryz.zeroValue3
  t4 := Tryz.underlying4
  a4 := Tryz.isAgg4
  z4 := Tryz.sizeOf4
  v4 := Tryz.zeroValue4
  t5 := Tryz.underlying5
  a5 := Tryz.isAgg5
  z5 := Tryz.sizeOf5
  v5 := Tryz.zeroValue5
  t9 := Tryz.underlying9
  a9 := Tryz.isAgg9
  z9 := Tryz.sizeOf9
  v9 := Tryz.zeroValue9
  t26 := Tryz.underlying43
  a26 := Tryz.isAgg43
  z26 := Tryz.sizeOf43
  v26 := Tryz.zeroValue43
  t27 := Tryz.underlying43
  a27 := Tryz.isAgg43
  z27 := Tryz.sizeOf43
  v27 := Tryz.zeroValue43
  t29 := Tryz.underlying9
  a29 := Tryz.isAgg9
  z29 := Tryz.sizeOf9
  v29 := Tryz.zeroValue9
  t32 := Tryz.underlying89
  a32 := Tryz.isAgg89
  z32 := Tryz.sizeOf89
  v32 := Tryz.zeroValue89
  t35 := Tryz.underlying107
  a35 := Tryz.isAgg107
  z35 := Tryz.sizeOf107
  v35 := Tryz.zeroValue107
  t36 := Tryz.underlying108
  a36 := Tryz.isAgg108
  z36 := Tryz.sizeOf108
  v36 := Tryz.zeroValue108
  t41 := Tryz.underlying70
  a41 := Tryz.isAgg70
  z41 := Tryz.sizeOf70
  v41 := Tryz.zeroValue70
  t44 := Tryz.underlying115
  a44 := Tryz.isAgg115
  z44 := Tryz.sizeOf115
  v44 := Tryz.zeroValue115
  t46 := Tryz.underlying117
  a46 := Tryz.isAgg117
  z46 := Tryz.sizeOf117
  v46 := Tryz.zeroValue117
  t53 := Tryz.underlying126
  a53 := Tryz.isAgg126
  z53 := Tryz.sizeOf126
  v53 := Tryz.zeroValue126
  t57 := Tryz.underlying130
  a57 := Tryz.isAgg130
  z57 := Tryz.sizeOf130
  v57 := Tryz.zeroValue130
  t63 := Tryz.underlying133
  a63 := Tryz.isAgg133
  z63 := Tryz.sizeOf133
  v63 := Tryz.zeroValue133
  t64 := Tryz.underlying80
  a64 := Tryz.isAgg80
  z64 := Tryz.sizeOf80
  v64 := Tryz.zeroValue80 }
def Tryz.cloneA_ren : Go.Shelf.Ren := ⟨fun | 5 => 33 | 7 => 48 | n => n, fun | 23 => 56 | 25 => 9 | 3 => 36 | 4 => 4 | 20 => 20 | n => n, fun | n => n⟩
theorem Tryz.cloneA : Go.Proofs.SlLaysW.n5 Tryz.prog Tryz.cloneA_ren := {
  mixed := by kernel_rfl
  f5 := ⟨Tryz.f33.name, by decide, Tryz.func33.trans (congrArg some (by kernel_rfl))⟩
  f7 := Tryz.func48.trans (congrArg some (by kernel_rfl))
  t4 := Tryz.underlying4
  a4 := Tryz.isAgg4
  z4 := Tryz.sizeOf4
  v4 := Tryz.zeroValue4
  t20 := Tryz.underlying20
  a20 := Tryz.isAgg20
  z20 := Tryz.sizeOf20
  v20 := Tryz.zeroValue20
  t23 := Tryz.underlying56
  a23 := Tryz.isAgg56
  z23 := Tryz.sizeOf56
  v23 := Tryz.zeroValue56 }
end Go.Proofs
namespace Go.Proofs.YteplcnpmdjdlkaaGreatDoor
open Go.RowKit
set_option linter.unusedVariables false
set_option linter.unusedSimpArgs false
set_option linter.unusedSectionVars false
section
variable {K V : Type} [DecidableEq K]
/-- What a list of pairs has at a key. -/
def assoc : List (K × V) → K → Option V
  | [], _ => none
  | (a, b) :: r, k => if a = k then some b else assoc r k
/-- The pair at a key turned; or one more, behind all. -/
def assocPut : List (K × V) → K → V → List (K × V)
  | [], k, v => [(k, v)]
  | (a, b) :: r, k, v => if a = k then (k, v) :: r else (a, b) :: assocPut r k v
theorem assoc_put (l : List (K × V)) (k k' : K) (v : V) : assoc (assocPut l k v) k' = if k = k' then some v else assoc l k' := by
  induction l with
  | nil => simp [assoc, assocPut]
  | cons p r ih =>
    obtain ⟨a, b⟩ := p
    simp only [assocPut]
    by_cases h : a = k
    · subst h
      simp only [if_true, assoc]
      split <;> rfl
    · simp only [if_neg h, assoc]
      by_cases h2 : a = k'
      · subst h2
        rw [if_pos rfl, if_neg (fun e => h e.symm), if_pos rfl]
      · rw [if_neg h2, ih, if_neg h2]
theorem assoc_same (l : List (K × V)) (k : K) (v : V) : assoc (assocPut l k v) k = some v := by rw [assoc_put, if_pos rfl]
theorem assoc_other (l : List (K × V)) {k k' : K} (v : V) (h : k ≠ k') : assoc (assocPut l k v) k' = assoc l k' := by rw [assoc_put, if_neg h]
theorem assoc_mem {l : List (K × V)} {k : K} {v : V} (h : assoc l k = some v) : (k, v) ∈ l := by
  induction l with
  | nil => cases h
  | cons p r ih =>
    obtain ⟨a, b⟩ := p
    simp only [assoc] at h
    split at h
    · rename_i e
      subst e
      cases h
      exact List.mem_cons_self ..
    · exact List.mem_cons_of_mem _ (ih h)
theorem assoc_none {l : List (K × V)} {k : K} : assoc l k = none ↔ k ∉ l.map Prod.fst := by
  induction l with
  | nil => simp [assoc]
  | cons p r ih =>
    obtain ⟨a, b⟩ := p
    simp only [assoc, List.map_cons, List.mem_cons, not_or]
    by_cases h : a = k
    · subst h; simp
    · rw [if_neg h, ih]
      exact ⟨fun h2 => ⟨fun e => h e.symm, h2⟩, fun h2 => h2.2⟩
theorem assoc_of_mem {l : List (K × V)} (hn : (l.map Prod.fst).Nodup) {k : K} {v : V} (h : (k, v) ∈ l) : assoc l k = some v := by
  induction l with
  | nil => cases h
  | cons p r ih =>
    obtain ⟨a, b⟩ := p
    rw [List.map_cons, List.nodup_cons] at hn
    simp only [assoc]
    rcases List.mem_cons.1 h with h | h
    · cases h
      rw [if_pos rfl]
    · rw [if_neg (fun e => hn.1 (by subst e; exact List.mem_map.2 ⟨_, h, rfl⟩)), ih hn.2 h]
theorem put_keys (l : List (K × V)) (k : K) (v : V) : (assocPut l k v).map Prod.fst = if k ∈ l.map Prod.fst then l.map Prod.fst else l.map Prod.fst ++ [k] := by
  induction l with
  | nil => simp [assocPut]
  | cons p r ih =>
    obtain ⟨a, b⟩ := p
    simp only [assocPut]
    by_cases h : a = k
    · subst h; simp
    · rw [if_neg h, List.map_cons, ih]
      by_cases h2 : k ∈ r.map Prod.fst
      · rw [if_pos h2, if_pos (by simp only [List.map_cons, List.mem_cons]; exact .inr h2), List.map_cons]
      · rw [if_neg h2, if_neg (by simp only [List.map_cons, List.mem_cons, not_or]; exact ⟨fun e => h e.symm, h2⟩), List.map_cons, List.cons_append]
theorem put_nodup {l : List (K × V)} (h : (l.map Prod.fst).Nodup) (k : K) (v : V) : ((assocPut l k v).map Prod.fst).Nodup := by
  rw [put_keys]
  split
  · exact h
  · rename_i h2
    refine List.nodup_append.2 ⟨h, by simp, fun a ha b hb => ?_⟩
    rw [List.mem_singleton] at hb
    subst hb
    exact fun e => h2 (e ▸ ha)
theorem put_mem {l : List (K × V)} {k : K} {v : V} {p : K × V} (h : p ∈ assocPut l k v) : p = (k, v) ∨ p ∈ l := by
  induction l with
  | nil => exact .inl (List.mem_singleton.1 h)
  | cons q r ih =>
    obtain ⟨a, b⟩ := q
    simp only [assocPut] at h
    split at h
    · rcases List.mem_cons.1 h with h | h
      · exact .inl h
      · exact .inr (List.mem_cons_of_mem _ h)
    · rcases List.mem_cons.1 h with h | h
      · exact .inr (by rw [h]; exact List.mem_cons_self ..)
      · rcases ih h with h | h
        · exact .inl h
        · exact .inr (List.mem_cons_of_mem _ h)
theorem put_len (l : List (K × V)) (k : K) (v : V) : (assocPut l k v).length ≤ l.length + 1 := by
  induction l with
  | nil => simp [assocPut]
  | cons p r ih =>
    obtain ⟨a, b⟩ := p
    simp only [assocPut]
    split <;> simp only [List.length_cons] <;> omega
/-- A map's entries, the stamps in the order in which they came. -/
def entsOf (kf : K → Value) (vf : V → Value) : Nat → List (K × V) → List MapEntry
  | _, [] => []
  | n, (a, b) :: r => ⟨kf a, vf b, n⟩ :: entsOf kf vf (n + 1) r
def mapO (kf : K → Value) (vf : V → Value) (l : List (K × V)) : Obj := .map (entsOf kf vf 0 l).toArray l.length
variable {kf : K → Value} {vf : V → Value}
theorem ents_len (n : Nat) (l : List (K × V)) : (entsOf kf vf n l).length = l.length := by
  induction l generalizing n with
  | nil => rfl
  | cons p r ih => obtain ⟨a, b⟩ := p; simp [entsOf, ih]
theorem ents_get (n : Nat) (l : List (K × V)) (i : Nat) : (entsOf kf vf n l)[i]? = (l[i]?).map fun p => ⟨kf p.1, vf p.2, n + i⟩ := by
  induction l generalizing n i with
  | nil => simp [entsOf]
  | cons p r ih =>
    obtain ⟨a, b⟩ := p
    cases i with
    | zero => simp [entsOf]
    | succ i => simp only [entsOf, List.getElem?_cons_succ, ih]; congr 1; funext q; congr 1; omega
theorem ents_mem {n : Nat} {l : List (K × V)} {e : MapEntry} (h : e ∈ entsOf kf vf n l) : ∃ p ∈ l, e.key = kf p.1 ∧ e.val = vf p.2 := by
  obtain ⟨i, hi⟩ := List.getElem?_of_mem h
  rw [ents_get] at hi
  obtain ⟨p, hp, rfl⟩ := Option.map_eq_some_iff.1 hi
  exact ⟨p, List.mem_of_getElem? hp, rfl, rfl⟩
theorem ents_append (n : Nat) (l : List (K × V)) (k : K) (v : V) : entsOf kf vf n (l ++ [(k, v)]) = entsOf kf vf n l ++ [⟨kf k, vf v, n + l.length⟩] := by
  induction l generalizing n with
  | nil => simp [entsOf]
  | cons p r ih => obtain ⟨a, b⟩ := p; simp only [List.cons_append, entsOf, ih, List.length_cons]; congr 3; congr 1; omega
theorem put_new {l : List (K × V)} {k : K} (h : assoc l k = none) (v : V) : assocPut l k v = l ++ [(k, v)] := by
  induction l with
  | nil => rfl
  | cons p r ih =>
    obtain ⟨a, b⟩ := p
    simp only [assoc] at h
    split at h
    · cases h
    · rename_i h2
      simp only [assocPut, if_neg h2, ih h, List.cons_append]
theorem ents_turn (hinj : ∀ a b, kf a = kf b → a = b) (n : Nat) {l : List (K × V)} (hn : (l.map Prod.fst).Nodup) {j : Nat} {e : MapEntry} {k : K} (he : (entsOf kf vf n l)[j]? = some e) (hk : e.key = kf k) :
    ∃ v, assoc l k = some v ∧ e.val = vf v ∧ ∀ v' : V, (entsOf kf vf n l).modify j (fun x => { x with key := kf k, val := vf v' }) = entsOf kf vf n (assocPut l k v') := by
  induction l generalizing n j with
  | nil => simp [entsOf] at he
  | cons p r ih =>
    obtain ⟨a, b⟩ := p
    rw [List.map_cons, List.nodup_cons] at hn
    cases j with
    | zero =>
      simp only [entsOf, List.getElem?_cons_zero, Option.some.injEq] at he
      subst he
      obtain rfl := hinj _ _ hk
      refine ⟨b, by simp [assoc], rfl, fun v' => ?_⟩
      simp [entsOf, assocPut]
    | succ j =>
      simp only [entsOf, List.getElem?_cons_succ] at he
      have hka : a ≠ k := by
        intro h
        subst h
        have h2 := he
        rw [ents_get] at h2
        obtain ⟨p, hp, rfl⟩ := Option.map_eq_some_iff.1 h2
        exact hn.1 (List.mem_map.2 ⟨p, List.mem_of_getElem? hp, hinj _ _ hk⟩)
      obtain ⟨v, h1, h2, h3⟩ := ih (n + 1) hn.2 he
      refine ⟨v, by rw [assoc, if_neg hka]; exact h1, h2, fun v' => ?_⟩
      simp only [entsOf, List.modify_succ_cons, h3, assocPut, if_neg hka]
/-- Keys of a map's type. -/
structure KeyF (P : Program) (kt : TypeId) (kf : K → Value) (Kd : K → Prop) : Prop where
  keyed : Go.Maps.Keyed P kt
  reads : ∀ k, Kd k → ∃ l, keyOf P kt (kf k) = some l
  inj : ∀ a b, kf a = kf b → a = b
structure KeysIn (Kd : K → Prop) (l : List (K × V)) : Prop where
  nodup : (l.map Prod.fst).Nodup
  all : ∀ p ∈ l, Kd p.1
theorem KeysIn.nil {Kd : K → Prop} : KeysIn Kd ([] : List (K × V)) := ⟨List.nodup_nil, fun p hp => by cases hp⟩
theorem KeysIn.put {Kd : K → Prop} {l : List (K × V)} (h : KeysIn Kd l) {k : K} (hk : Kd k) (v : V) : KeysIn Kd (assocPut l k v) :=
  ⟨put_nodup h.nodup k v, fun p hp => by
    rcases put_mem hp with rfl | hp
    · exact hk
    · exact h.all p hp⟩
variable {P : Program} {kt et t : TypeId} {Kd : K → Prop} {w : World} {b : Nat} {l : List (K × V)} {k : K}
theorem run_find (F : KeyF P kt kf Kd) (hl : KeysIn Kd l) (hk : Kd k) (w : World) :
    (assoc l k = none ∧ (Instr.findKey kt (kf k) (entsOf kf vf 0 l)).run P w = .ok none w) ∨
    ∃ j v, assoc l k = some v ∧ (Instr.findKey kt (kf k) (entsOf kf vf 0 l)).run P w = .ok (some (j, vf v)) w ∧ (∃ e, (entsOf kf vf 0 l)[j]? = some e ∧ e.key = kf k) ∧ ∀ v' : V, (entsOf kf vf 0 l).modify j (fun x => { x with key := kf k, val := vf v' }) = entsOf kf vf 0 (assocPut l k v') := by
  obtain ⟨kl, hkl⟩ := F.reads k hk
  rcases F.keyed.find w hkl (entsOf kf vf 0 l) (fun e he => by obtain ⟨p, hp, h1, _⟩ := ents_mem he; rw [h1]; exact F.reads p.1 (hl.all p hp)) with ⟨h1, h2⟩ | ⟨j, e, h1, h2, h3⟩
  · refine .inl ⟨assoc_none.2 fun hm => ?_, h1⟩
    obtain ⟨p, hp, rfl⟩ := List.mem_map.1 hm
    obtain ⟨i, hi⟩ := List.getElem?_of_mem hp
    have h4 : (entsOf kf vf 0 l)[i]? = some ⟨kf p.1, vf p.2, 0 + i⟩ := by rw [ents_get, hi]; rfl
    exact h2 _ (List.mem_of_getElem? h4) rfl
  · obtain ⟨v, g1, g2, g3⟩ := ents_turn F.inj 0 hl.nodup h2 h3
    exact .inr ⟨j, v, g1, by rw [← g2]; exact h1, ⟨e, h2, h3⟩, g3⟩
/-- What a look-up gives. -/
def lookV (c : Bool) (vf : V → Value) (z : Value) : Option V → Value
  | some v => if c then .tuple #[vf v, .bool true] else vf v
  | none => if c then .tuple #[z, .bool false] else z
theorem run_look (F : KeyF P kt kf Kd) (ht : P.underlying t = some (.map kt et)) (hl : KeysIn Kd l) (hk : Kd k) (hb : w.heap[b]? = some (mapO kf vf l)) (c : Bool) {z : Value} (hz : (zeroValue et).run P w = .ok z w) :
    (Instr.lookup t (.map (some b)) (kf k) c).run P w = .ok (lookV c vf z (assoc l k)) w := by
  obtain ⟨kl, hkl⟩ := F.reads k hk
  rcases run_find (vf := vf) F hl hk w with ⟨h1, h2⟩ | ⟨j, v, h1, h2, _, _⟩
  · rw [h1]
    simp [Instr.lookup, run_underlying ht, MapKept.run_getObj_map hb, F.keyed.check w _ hkl, h2, hz, Result.andThen, lookV]
  · rw [h1]
    simp [Instr.lookup, run_underlying ht, MapKept.run_getObj_map hb, F.keyed.check w _ hkl, h2, Result.andThen, lookV]
/-- The world with a block turned. -/
def turnB (w : World) (b : Nat) (o : Obj) : World := { w with heap := w.heap.setIfInBounds b o }
theorem run_update (F : KeyF P kt kf Kd) (ht : P.underlying t = some (.map kt et)) (hl : KeysIn Kd l) (hk : Kd k) (hb : w.heap[b]? = some (mapO kf vf l)) (v : V) :
    (Instr.mapUpdate t (.map (some b)) (kf k) (vf v)).run P w = .ok () (turnB w b (mapO kf vf (assocPut l k v))) := by
  obtain ⟨kl, hkl⟩ := F.reads k hk
  rcases run_find (vf := vf) F hl hk w with ⟨h1, h2⟩ | ⟨j, v0, h1, h2, ⟨e, he, hek⟩, h3⟩
  · have e1 : assocPut l k v = l ++ [(k, v)] := put_new h1 v
    have e2 : (entsOf kf vf 0 l).toArray.push ⟨kf k, vf v, l.length⟩ = (entsOf kf vf 0 (assocPut l k v)).toArray := by
      rw [e1, ents_append]; simp
    have e3 : (assocPut l k v).length = l.length + 1 := by rw [e1]; simp
    simp [Instr.mapUpdate, run_underlying ht, MapKept.run_getObj_map hb, F.keyed.check w false hkl, h2, MapKept.run_setObj_map _ hb, Result.andThen, turnB, mapO, ← e2, e3]
  · have e3 : (assocPut l k v).length = l.length := by
      have h4 := congrArg List.length (put_keys l k v)
      rw [if_pos (by rcases Classical.em (k ∈ l.map Prod.fst) with h5 | h5; exact h5; rw [assoc_none.2 h5] at h1; cases h1)] at h4
      simpa using h4
    simp [Instr.mapUpdate, run_underlying ht, MapKept.run_getObj_map hb, F.keyed.check w false hkl, h2, he, hek, F.keyed.stays w hkl, MapKept.run_setObj_map _ hb, Result.andThen, turnB, mapO, e3, h3 v]
theorem turn_block {o o' : Obj} (hb : w.heap[b]? = some o) : (turnB w b o').heap[b]? = some o' := by
  have h := (Array.getElem?_eq_some_iff.1 hb).1
  simp [turnB, h]
theorem turn_other {o' : Obj} {j : Nat} (h : j ≠ b) : (turnB w b o').heap[j]? = w.heap[j]? := by
  simp only [turnB, Array.getElem?_setIfInBounds]
  rw [if_neg (fun e => h e.symm)]
theorem turn_size (o' : Obj) : (turnB w b o').heap.size = w.heap.size := by simp [turnB]
theorem turn_below (o' : Obj) : Below b w (turnB w b o') := ⟨rfl, rfl, rfl, Nat.le_of_eq (turn_size o').symm, fun j hj => turn_other (by omega)⟩
section
variable {ops : Array Oper} {rest : List Oper} {o : Oper} {a : Act} {Q : Exit → Act → World → Prop}
theorem look_arm (hwt : Region.wanted o (yielded ops a.tmps) = true) (m x : Operand) (c : Bool) (ho : o.op = .lookup t m x c) (F : KeyF P kt kf Kd) (ht : P.underlying t = some (.map kt et)) (hl : KeysIn Kd l) (hk : Kd k)
    (hm : a.eval m = .map (some b)) (hx : a.eval x = kf k) (hb : w.heap[b]? = some (mapO kf vf l)) {z : Value} (hz : (zeroValue et).run P w = .ok z w) {u : Value} (hu : lookV c vf z (assoc l k) = u)
    (h : wpList P ops Q rest (a.put o.dst u) w) : wpList P ops Q (o :: rest) a w :=
  BigFrame.wpList_want hwt fun K' hK' => by
    subst hu
    unfold Oper.wp
    simp only [execOp, ho, hm, hx, Sem.run_bind, run_look F ht hl hk hb c hz, Result.andThen_ok, Sem.run_pure, Oper.upon_value]
    exact hK' _ _ h
/-- .. in a region whose order is open. -/
theorem quiet_look {C : World → Prop} {K' : Act → Prop} (m x : Operand) (c : Bool) (ho : o.op = .lookup t m x c) (F : KeyF P kt kf Kd) (ht : P.underlying t = some (.map kt et)) (hl : KeysIn Kd l) (hk : Kd k)
    (hm : a.eval m = .map (some b)) (hx : a.eval x = kf k) (hb : ∀ w, C w → w.heap[b]? = some (mapO kf vf l)) {z : Value} (hz : ∀ w, (zeroValue et).run P w = .ok z w) {u : Value} (hu : lookV c vf z (assoc l k) = u)
    (h : K' (a.put o.dst u)) : o.quiet P a C K' := by
  subst hu
  refine ⟨_, fun w hw => ?_, h⟩
  unfold Oper.quietAt execOp
  simp only [ho, hm, hx, Sem.run_bind, run_look F ht hl hk (hb w hw) c (hz w), Result.andThen_ok, Sem.run_pure]
  exact ⟨rfl, rfl⟩
theorem update_arm (hwt : Region.wanted o (yielded ops a.tmps) = true) (m x y : Operand) (ho : o.op = .mapUpdate t m x y) (F : KeyF P kt kf Kd) (ht : P.underlying t = some (.map kt et)) (hl : KeysIn Kd l) (hk : Kd k)
    (hm : a.eval m = .map (some b)) (hx : a.eval x = kf k) (v : V) (hv : a.eval y = vf v) (hb : w.heap[b]? = some (mapO kf vf l))
    (h : ∀ w', w'.heap[b]? = some (mapO kf vf (assocPut l k v)) → (∀ j, j ≠ b → w'.heap[j]? = w.heap[j]?) → Below b w w' → w'.heap.size = w.heap.size → wpList P ops Q rest (a.put o.dst (.tuple #[])) w') : wpList P ops Q (o :: rest) a w :=
  BigFrame.wpList_want hwt fun K' hK' => by
    unfold Oper.wp
    simp only [execOp, ho, hm, hx, hv, Sem.run_bind, run_update F ht hl hk hb v, Result.andThen_ok, Sem.run_pure, Oper.upon_value]
    exact hK' _ _ (h _ (turn_block hb) (fun j hj => turn_other hj) (turn_below _) (turn_size _))
end
end
end Go.Proofs.YteplcnpmdjdlkaaGreatDoor
namespace Go.Proofs.YteplcnpmdjdlkaaGreatDoor
open Go.RowKit Go.Maps Go.Sort Go.Shelf Go.ChangeMaps
set_option linter.unusedVariables false
set_option linter.unusedSimpArgs false
/-- Bytes, as many as a text may have. -/
def KSz (k : ByteArray) : Prop := k.size ≤ 9223372036854775807
theorem max_is : maxLen = 9223372036854775807 := by decide
theorem ksz {k : ByteArray} (h : KSz k) : k.size ≤ maxLen := by rw [max_is]; exact h
theorem str_key : KeyF Tryz.prog 9 Value.string KSz :=
  ⟨string_keyed Tryz.underlying9, fun k hk => ⟨_, Go.WideMaps.keyOf_string_mk Tryz.underlying9 (ksz hk)⟩, fun a b h => by injection h⟩
theorem rg_keys {V : Type} (vf : V → Value) (l : List (ByteArray × V)) (hl : KeysIn KSz l) (n : Nat) : (entsOf Value.string vf n l).map (Go.WideElems.rg (H := Nat) Tryz.prog 9 (fun _ => some (DataW.nil, []))) = l.map fun p => (Lit.string p.1.data.toList, DataW.nil) := by
  have ha := hl.all
  clear hl
  induction l generalizing n with
  | nil => rfl
  | cons p r ih =>
    obtain ⟨a, b⟩ := p
    simp only [entsOf, List.map_cons]
    rw [ih (n + 1) (fun q hq => ha q (List.mem_cons_of_mem _ hq))]
    have hk := Go.WideMaps.keyOf_string_mk Tryz.underlying9 (ksz (ha (a, b) (List.mem_cons_self ..)))
    have h := Go.WideElems.rd_mk (H := Nat) (R := fun _ => some (DataW.nil, [])) (val := vf b) (born := n) (yv := (DataW.nil, [])) hk rfl
    rw [Go.WideElems.rg_of h]
theorem words_own {V : Type} {vf : V → Value} {l : List (ByteArray × V)} {w : World} {b : Nat} (hl : KeysIn KSz l) (hn : l.length ≤ 9223372036854775807) (hb : w.heap[b]? = some (mapO Value.string vf l)) :
    ∃ D : DataW Nat, w.ownsMap Tryz.prog 9 (fun _ => some (DataW.nil, [])) b l.length D ∧ Maps.size D = l.length ∧ (strKeys D).Perm (l.map fun p => p.1.data.toList) := by
  refine ⟨.map (((entsOf Value.string vf 0 l).map (Go.WideElems.rg (H := Nat) Tryz.prog 9 (fun _ => some (DataW.nil, [])))).foldr DataW.insert []), ⟨_, _, hb, ⟨by rw [List.size_toArray, ents_len, max_is]; exact hn, ?_, fun x hx => ?_⟩, by simp [ents_len], by simp⟩, ?_, ?_⟩
  · have hg : ∀ i (x : MapEntry), (entsOf Value.string vf 0 l)[i]? = some x → x.born = i ∧ ∃ p, l[i]? = some p ∧ x.key = .string p.1 := fun i x hx => by
      rw [ents_get] at hx
      obtain ⟨p, hp, rfl⟩ := Option.map_eq_some_iff.1 hx
      exact ⟨Nat.zero_add i, p, hp, rfl⟩
    refine ⟨fun x hx => ?_, ?_, ?_⟩
    · obtain ⟨i, hi⟩ := List.getElem?_of_mem hx
      obtain ⟨h1, p, hp, _⟩ := hg i x (by simpa using hi)
      have := (List.getElem?_eq_some_iff.1 hp).1
      omega
    · have e : (entsOf Value.string vf 0 l).map (·.born) = List.range l.length := by
        apply List.ext_getElem?
        intro i
        rw [List.getElem?_map, ents_get]
        rcases Nat.lt_or_ge i l.length with h | h
        · simp [h]
        · simp [h]
      rw [e]
      exact List.nodup_range
    · have e : (entsOf Value.string vf 0 l).map (·.key) = (l.map Prod.fst).map Value.string := by
        apply List.ext_getElem?
        intro i
        rw [List.getElem?_map, ents_get, List.map_map, List.getElem?_map]
        simp [Function.comp_def]
      show (List.map (·.key) (entsOf Value.string vf 0 l)).Nodup
      rw [e]
      exact List.Pairwise.map _ (fun a b h e => h (by injection e)) hl.nodup
  · obtain ⟨p, hp, h1, h2⟩ := ents_mem (by simpa using hx)
    exact ⟨_, Go.WideElems.rd_mk (yv := (DataW.nil, [])) (born := x.born) (by rw [h1]; exact Go.WideMaps.keyOf_string_mk Tryz.underlying9 (ksz (hl.all p hp))) rfl⟩
  · show (((entsOf Value.string vf 0 l).map _).foldr DataW.insert []).length = _
    rw [length_sorted, List.length_map, ents_len]
  · show ((((entsOf Value.string vf 0 l).map _).foldr DataW.insert []).map fun p => strOf p.1).Perm _
    refine ((Go.WideShapes.sorted_perm _).map _).trans (List.Perm.of_eq ?_)
    rw [rg_keys vf l hl 0, List.map_map]
    rfl
theorem sorts_fence (m : Nat) : AnyZ.SortsIn Tryz.prog Tryz.sortedA_ren Fence.wide m :=
  ⟨fun blk off cap ss W hH hblk hsz => callsIn_wide.2 (AnyM.slices_Sort_string Tryz.sortA blk off cap ss W hH hblk hsz),
   fun p cap W => callsIn_wide.2 (AnyM.slices_Sort_string_none Tryz.sortA p cap W)⟩
theorem keys_call (mb : Option Nat) (W : World) : Calls Tryz.prog 26 #[.map mb] W fun e w' => e = .returned (.func (.func 42) #[] #[.pointer (some ⟨W.heap.size, 0, none⟩)]) ∧ w' = W.alloc (.cells #[.map mb] 56) :=
  (callsIn_wide (n := 5)).1 (AnyZ.keys_in Tryz.keysA Fence.wide 5 trivial rfl mb W)
theorem sorted_call {V : Type} {vf : V → Value} (l : List (ByteArray × V)) (w : World) (b : Nat) (hl : KeysIn KSz l) (hn : l.length ≤ 1000000) (hb : w.heap[b]? = some (mapO Value.string vf l)) :
    Calls Tryz.prog 25 #[.func (.func 42) #[] #[.pointer (some ⟨w.heap.size, 0, none⟩)]] (w.alloc (.cells #[.map (some b)] 56)) fun e w' => ∃ (v : Value) (ss : List (List UInt8)), e = .returned v ∧ ss.Perm (l.map fun p => p.1.data.toList) ∧
      w'.ownsRow w.heap.size 9 1 v ss.length ((ss.mergeSort (fun x y => decide (x ≤ y))).map encStr) ∧ (v = .slice none 0 0 ↔ ss = []) ∧ Below w.heap.size w w' := by
  obtain ⟨D, hown, hsz, hperm⟩ := words_own (w := w) (b := b) (vf := vf) hl (by omega) hb
  have hbl := hown.lt
  have hseq : SeqGives Fence.wide 2 Tryz.prog 42 #[.pointer (some ⟨w.heap.size, 0, none⟩)] encStr (fun ss => ss.Perm (strKeys D)) (Maps.size D) (w.alloc (.cells #[.map (some b)] 56)) :=
    AnyZ.keys_gives (ρ := Tryz.keysA_ren) { Tryz.keysA with } Fence.wide _ trivial rfl (by omega) w.heap.size b l.length D _ (by simp) (by simp) (by
      obtain ⟨es, clock, hb, Ft, hs, hD⟩ := hown
      exact ⟨es, clock, (Below.heap_alloc _ _ b hbl).trans hb, Ft, hs, hD⟩)
  have cS := AnyZ.sorted_in Tryz.sortedA Fence.wide 5 trivial trivial trivial trivial rfl (by omega) (sorts_fence _) (enters_of Tryz.func41 (by kernel_rfl) rfl) 42 #[.pointer (some ⟨w.heap.size, 0, none⟩)] trivial (enters_of Tryz.func42 (by kernel_rfl) rfl) _ _ (by rw [hsz, max_is]; omega) (by rw [hsz]; omega) _ hseq
  change CallsIn _ _ Tryz.prog 25 _ _ _ at cS
  refine ((callsIn_wide (n := 5)).1 cS).mono ?_
  rintro e w' ⟨v, ss, rfl, hS, hrow, hnil, hbw⟩
  exact ⟨v, ss, rfl, hS.trans hperm, ownsRow_base_a hrow (by simp), hnil, ((Below.refl _ w).alloc (Nat.le_refl _) _).trans (hbw.mono (by simp))⟩
theorem clone_call {K V : Type} [DecidableEq K] {kf : K → Value} {vf : V → Value} (l : List (K × V)) (w : World) (b : Nat) (hb : w.heap[b]? = some (mapO kf vf l)) :
    Calls Tryz.prog 33 #[.map (some b)] w fun e w' => e = .returned (.map (some w.heap.size)) ∧ w' = w.alloc (mapO kf vf l) := AnyW.maps_Clone Tryz.cloneA b _ _ w hb
end Go.Proofs.YteplcnpmdjdlkaaGreatDoor
