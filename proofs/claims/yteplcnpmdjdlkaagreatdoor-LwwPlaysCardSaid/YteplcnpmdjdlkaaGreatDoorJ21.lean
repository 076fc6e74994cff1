/-
  The last word counts, whatever the order in which the words came: plain. No condition.
  Words on keys that are apart: plain. No condition.
  ops.Good and the reference's Op tell the same: plain Lean. No condition beside 64 numbers in a vector.
  The reference's Op at a word. No condition beside a key that a memory holds.
-/
import Derived.Test.YteplcnpmdjdlkaaGreatDoorJ19
import Derived.Test.YteplcnpmdjdlkaaGreatDoorJ25
import Derived.Test.YteplcnpmdjdlkaaGreatDoorOpGoodJ
import Derived.Test.YteplcnpmdjdlkaaGreatDoorROpAJ
import Derived.Test.YteplcnpmdjdlkaaGreatDoorJ7
import Derived.Test.YteplcnpmdjdlkaaGreatDoorJ22
namespace Go.Proofs.YteplcnpmdjdlkaaGreatDoor
open Go.RowKit Go.Sort Go.Maps
set_option linter.unusedVariables false
set_option linter.unusedSimpArgs false
theorem word_key (x : WordV) : x.op.o.key = x.key := by unfold WordV.op; split <;> rfl
theorem word_T (x : WordV) : x.op.o.T = x.T := by unfold WordV.op; split <;> rfl
theorem word_R (x : WordV) : x.op.o.R = x.R := by unfold WordV.op; split <;> rfl
theorem word_K (x : WordV) : (x.op.o.K == 1 || x.op.o.K == 2) = true := by unfold WordV.op; split <;> rfl
theorem after_iff (a b : OpV) : afterB a b = true ↔ b.T < a.T ∨ a.T = b.T ∧ b.R < a.R := by unfold afterB; simp
theorem after_no (a b : OpV) : afterB a b = false ↔ ¬ (b.T < a.T ∨ a.T = b.T ∧ b.R < a.R) := by unfold afterB; simp
theorem after_same {a b c : OT} (h : OT.Same b c) : afterB a.o c.o = afterB a.o b.o := by unfold afterB; rw [h.T, h.R]
/-- What a map holds behind these words. -/
structure Holds (S : List WordV) (l : Wd) : Prop where
  no : ∀ k, assoc l k = none → ∀ x ∈ S, x.op.good = true → x.key ≠ k
  is : ∀ k y, assoc l k = some y → ∃ x ∈ S, x.op.good = true ∧ x.key = k ∧ OT.Same x.op y ∧ ∀ z ∈ S, z.op.good = true → z.key = k → afterB z.op.o x.op.o = false
theorem Holds.nil : Holds [] [] := ⟨fun k _ x hx => absurd hx (List.not_mem_nil), fun k y h => by simp [assoc] at h⟩
theorem Holds.step {S : List WordV} {l l2 : Wd} {x : WordV} {r : Bool} (h : Holds S l) (ha : Applied x.op l r l2) : Holds (S ++ [x]) l2 := by
  obtain ⟨_, h2⟩ := ha
  cases hacc : accB x.op l with
  | true =>
    rw [hacc, if_pos rfl] at h2
    obtain ⟨y, hy, hs, rfl⟩ := h2
    unfold accB at hacc
    rw [word_K, Bool.true_and, Bool.and_eq_true] at hacc
    obtain ⟨hg, hm⟩ := hacc
    rw [word_key] at hm ⊢
    refine ⟨fun k hk z hz hzg => ?_, fun k q hk => ?_⟩
    · rw [assoc_put] at hk
      split at hk
      · cases hk
      · rename_i hne
        rcases List.mem_append.1 hz with hz | hz
        · exact h.no k hk z hz hzg
        · obtain rfl := List.mem_singleton.1 hz
          exact hne
    · rw [assoc_put] at hk
      split at hk
      · rename_i he
        subst he
        obtain rfl := Option.some.inj hk
        refine ⟨x, by simp, hg, rfl, hs, fun z hz hzg hzk => ?_⟩
        rcases List.mem_append.1 hz with hz | hz
        · cases hq : assoc l x.key with
          | none => exact absurd hzk (h.no _ hq z hz hzg)
          | some q =>
            rw [hq] at hm
            obtain ⟨x0, _, _, _, hs0, hmax⟩ := h.is _ _ hq
            have h1 := hmax z hz hzg hzk
            have h2 : afterB x.op.o x0.op.o = true := by rw [← after_same hs0]; exact hm
            rw [after_no] at h1 ⊢
            rw [after_iff] at h2
            omega
        · obtain rfl := List.mem_singleton.1 hz
          rw [after_no]; omega
      · rename_i hne
        obtain ⟨x0, hx0, hg0, hk0, hs0, hmax⟩ := h.is k q hk
        refine ⟨x0, List.mem_append_left _ hx0, hg0, hk0, hs0, fun z hz hzg hzk => ?_⟩
        rcases List.mem_append.1 hz with hz | hz
        · exact hmax z hz hzg hzk
        · obtain rfl := List.mem_singleton.1 hz
          exact absurd hzk hne
  | false =>
    rw [hacc] at h2
    have h2 : l2 = l := by simpa using h2
    subst h2
    unfold accB at hacc
    rw [word_K, Bool.true_and, word_key] at hacc
    refine ⟨fun k hk z hz hzg => ?_, fun k q hk => ?_⟩
    · rcases List.mem_append.1 hz with hz | hz
      · exact h.no k hk z hz hzg
      · obtain rfl := List.mem_singleton.1 hz
        intro he
        subst he
        rw [hk, hzg] at hacc
        cases hacc
    · obtain ⟨x0, hx0, hg0, hk0, hs0, hmax⟩ := h.is k q hk
      refine ⟨x0, List.mem_append_left _ hx0, hg0, hk0, hs0, fun z hz hzg hzk => ?_⟩
      rcases List.mem_append.1 hz with hz | hz
      · exact hmax z hz hzg hzk
      · obtain rfl := List.mem_singleton.1 hz
        subst hzk
        rw [hk, hzg] at hacc
        rw [← after_same hs0]
        simpa using hacc
/-- No two of one time and replica. -/
def Parted (L : List WordV) : Prop := ∀ x ∈ L, ∀ y ∈ L, x.R = y.R → x.T = y.T → x = y
/-- Two maps behind the same words hold the same. -/
theorem holds_same {L S S' : List WordV} {la lb : Wd} (hp : Parted L) (ha : Holds S la) (hb : Holds S' lb) (h1 : ∀ x, x ∈ S ↔ x ∈ L) (h2 : ∀ x, x ∈ S' ↔ x ∈ L) (k : ByteArray) :
    (assoc la k = none ∧ assoc lb k = none) ∨ ∃ y z, assoc la k = some y ∧ assoc lb k = some z ∧ OT.Same y z := by
  cases hq : assoc la k with
  | none =>
    cases hr : assoc lb k with
    | none => exact .inl ⟨rfl, rfl⟩
    | some z =>
      obtain ⟨x, hx, hg, hk, _⟩ := hb.is k z hr
      exact absurd hk (ha.no k hq x ((h1 x).2 ((h2 x).1 hx)) hg)
  | some y =>
    obtain ⟨x, hx, hg, hk, hs, hm⟩ := ha.is k y hq
    cases hr : assoc lb k with
    | none => exact absurd hk (hb.no k hr x ((h2 x).2 ((h1 x).1 hx)) hg)
    | some z =>
      obtain ⟨x', hx', hg', hk', hs', hm'⟩ := hb.is k z hr
      have e1 := hm x' ((h1 x').2 ((h2 x').1 hx')) hg' hk'
      have e2 := hm' x ((h2 x).2 ((h1 x).1 hx)) hg hk
      rw [after_no, word_T, word_T, word_R, word_R] at e1 e2
      obtain rfl : x = x' := hp x ((h1 x).1 hx) x' ((h2 x').1 hx') (by omega) (by omega)
      exact .inr ⟨y, z, rfl, rfl, hs.symm.trans hs'⟩
/-- .. so their keys are the same. -/
theorem keys_same {la lb : Wd} (hka : (la.map Prod.fst).Nodup) (hkb : (lb.map Prod.fst).Nodup) (h : ∀ k, (assoc la k = none ∧ assoc lb k = none) ∨ ∃ y z, assoc la k = some y ∧ assoc lb k = some z ∧ OT.Same y z) : keysW la = keysW lb := by
  have hmem : ∀ k, k ∈ la.map Prod.fst ↔ k ∈ lb.map Prod.fst := by
    intro k
    rcases h k with ⟨h1, h2⟩ | ⟨y, z, h1, h2, _⟩
    · exact ⟨fun hk => absurd hk (assoc_none.1 h1), fun hk => absurd hk (assoc_none.1 h2)⟩
    · exact ⟨fun _ => List.mem_map.2 ⟨_, assoc_mem h2, rfl⟩, fun _ => List.mem_map.2 ⟨_, assoc_mem h1, rfl⟩⟩
  have hperm : (la.map Prod.fst).Perm (lb.map Prod.fst) := (List.perm_ext_iff_of_nodup hka hkb).2 hmem
  have hs : sortK la = sortK lb := by
    unfold sortK
    refine mergeSort_of_perm ?_
    have := hperm.map (fun k : ByteArray => k.data.toList)
    simpa [List.map_map, Function.comp_def] using this
  unfold keysW
  rw [hs]
  refine List.filter_congr fun s _ => ?_
  unfold onK
  rcases h (kb s) with ⟨h1, h2⟩ | ⟨y, z, h1, h2, hyz⟩
  · rw [h1, h2]
  · rw [h1, h2]
    show (y.o.K == 1) = (z.o.K == 1)
    rw [hyz.K]
end Go.Proofs.YteplcnpmdjdlkaaGreatDoor
namespace Go.Proofs.YteplcnpmdjdlkaaGreatDoor
open Go.RowKit Go.Sort Go.Maps
set_option linter.unusedVariables false
set_option linter.unusedSimpArgs false
def hd (k : ByteArray) : Option UInt8 := k.data.toList.head?
def preW (b : UInt8) (x : WordV) : WordV := { x with key := ⟨#[b]⟩ ++ x.key }
theorem hd_pre (b : UInt8) (x : WordV) : hd (preW b x).key = some b := by
  show (((⟨#[b]⟩ : ByteArray) ++ x.key).data.toList.head?) = some b
  rw [ByteArray.data_append]
  simp
structure Twins (la lb : Wd) : Prop where
  same : ∀ k, hd k = some 108 → (assoc la k = none ∧ assoc lb k = none) ∨ ∃ y z, assoc la k = some y ∧ assoc lb k = some z ∧ OT.Same y z
  ones : ∀ k y, assoc la k = some y → hd k = some 108
  twos : ∀ k y, assoc lb k = some y → hd k = some 108 ∨ hd k = some 109
theorem Twins.nil : Twins [] [] := ⟨fun k _ => .inl ⟨rfl, rfl⟩, fun k y h => by simp [assoc] at h, fun k y h => by simp [assoc] at h⟩
theorem applied_at {x : OT} {l l2 : Wd} {r : Bool} (h : Applied x l r l2) {k : ByteArray} (hk : k ≠ x.o.key) : assoc l2 k = assoc l k := by
  obtain ⟨_, h⟩ := h
  split at h
  · obtain ⟨y, _, _, rfl⟩ := h
    exact assoc_other _ _ (fun e => hk e.symm)
  · rw [h]
theorem applied_some {x : OT} {l l2 : Wd} {r : Bool} (h : Applied x l r l2) {k : ByteArray} {y : OT} (hy : assoc l2 k = some y) : k = x.o.key ∨ assoc l k = some y := by
  by_cases hk : k = x.o.key
  · exact .inl hk
  · rw [applied_at h hk] at hy; exact .inr hy
theorem Twins.both {la lb la2 lb2 : Wd} {x : WordV} {ra rb : Bool} (h : Twins la lb) (hx : hd x.key = some 108) (ha : Applied x.op la ra la2) (hb : Applied x.op lb rb lb2) : Twins la2 lb2 := by
  refine ⟨fun k hk => ?_, fun k y hy => ?_, fun k y hy => ?_⟩
  · by_cases he : k = x.op.o.key
    · subst he
      have hs := h.same _ hk
      have hacc : accB x.op la = accB x.op lb := by
        unfold accB
        rcases hs with ⟨h1, h2⟩ | ⟨y, z, h1, h2, h3⟩
        · rw [h1, h2]
        · rw [h1, h2]
          show (_ && _ && afterB x.op.o y.o) = (_ && _ && afterB x.op.o z.o)
          rw [after_same h3]
      obtain ⟨_, ha⟩ := ha
      obtain ⟨_, hb⟩ := hb
      rw [hacc] at ha
      cases hq : accB x.op lb with
      | true =>
        rw [hq, if_pos rfl] at ha hb
        obtain ⟨y, _, h1, rfl⟩ := ha
        obtain ⟨z, _, h2, rfl⟩ := hb
        exact .inr ⟨y, z, assoc_same _ _ _, assoc_same _ _ _, h1.symm.trans h2⟩
      | false =>
        rw [hq] at ha hb
        have ha : la2 = la := by simpa using ha
        have hb : lb2 = lb := by simpa using hb
        subst ha hb
        exact hs
    · rw [applied_at ha he, applied_at hb he]
      exact h.same k hk
  · rcases applied_some ha hy with rfl | hy
    · rw [word_key]; exact hx
    · exact h.ones k y hy
  · rcases applied_some hb hy with rfl | hy
    · rw [word_key]; exact .inl hx
    · exact h.twos k y hy
theorem Twins.one {la lb lb2 : Wd} {x : WordV} {rb : Bool} (h : Twins la lb) (hx : hd x.key = some 109) (hb : Applied x.op lb rb lb2) : Twins la lb2 := by
  refine ⟨fun k hk => ?_, h.ones, fun k y hy => ?_⟩
  · have he : k ≠ x.op.o.key := by
      intro e
      subst e
      rw [word_key, hx] at hk
      exact absurd (Option.some.inj hk) (by decide)
    rw [applied_at hb he]
    exact h.same k hk
  · rcases applied_some hb hy with rfl | hy
    · rw [word_key]; exact .inr hx
    · exact h.twos k y hy
def isL (s : List UInt8) : Bool := s.head? == some 108
theorem keysW_perm (l : Wd) : (keysW l).Perm (((l.map Prod.fst).map fun k : ByteArray => k.data.toList).filter (onK l)) := by
  unfold keysW sortK
  have h : (l.map fun p => p.1.data.toList) = (l.map Prod.fst).map fun k : ByteArray => k.data.toList := by simp [List.map_map, Function.comp_def]
  rw [h]
  exact (List.mergeSort_perm _ _).filter _
theorem keysW_nodup {l : Wd} (h : (l.map Prod.fst).Nodup) : (keysW l).Nodup := by
  refine (keysW_perm l).nodup_iff.2 ?_
  refine List.Pairwise.filter _ (List.Pairwise.map _ (fun a b hab e => hab ?_) h)
  have h1 := congrArg kb e
  rwa [kb_data, kb_data] at h1
theorem keysW_mem {l : Wd} {s : List UInt8} : s ∈ keysW l ↔ ∃ y, assoc l (kb s) = some y ∧ (y.o.K == 1) = true := by
  constructor
  · intro h
    unfold keysW at h
    rw [List.mem_filter] at h
    obtain ⟨h1, h2⟩ := h
    obtain ⟨y, hy⟩ := sortK_mem h1
    unfold onK at h2
    rw [hy] at h2
    exact ⟨y, hy, h2⟩
  · rintro ⟨y, hy, hk⟩
    unfold keysW sortK
    rw [List.mem_filter, List.mem_mergeSort]
    refine ⟨List.mem_map.2 ⟨_, assoc_mem hy, by simp [kb]⟩, ?_⟩
    unfold onK
    rw [hy]
    exact hk
theorem twins_count {la lb : Wd} (h : Twins la lb) (hka : (la.map Prod.fst).Nodup) (hkb : (lb.map Prod.fst).Nodup) : ((keysW lb).filter isL).length = (keysW la).length := by
  refine List.Perm.length_eq ((List.perm_ext_iff_of_nodup ((keysW_nodup hkb).filter _) (keysW_nodup hka)).2 fun s => ?_)
  rw [List.mem_filter, keysW_mem, keysW_mem]
  have hhd : hd (kb s) = s.head? := by simp [hd, kb]
  constructor
  · rintro ⟨⟨y, hy, hk⟩, hl⟩
    have hl' : hd (kb s) = some 108 := by rw [hhd]; simpa [isL] using hl
    rcases h.same _ hl' with ⟨_, h2⟩ | ⟨u, v, h1, h2, h3⟩
    · rw [h2] at hy; cases hy
    · rw [h2] at hy
      obtain rfl := Option.some.inj hy
      exact ⟨u, h1, by rw [h3.K]; exact hk⟩
  · rintro ⟨y, hy, hk⟩
    have hl' := h.ones _ _ hy
    rcases h.same _ hl' with ⟨h1, _⟩ | ⟨u, v, h1, h2, h3⟩
    · rw [h1] at hy; cases hy
    · rw [h1] at hy
      obtain rfl := Option.some.inj hy
      exact ⟨⟨v, h2, by rw [← h3.K]; exact hk⟩, by rw [hhd] at hl'; simp [isL, hl']⟩
end Go.Proofs.YteplcnpmdjdlkaaGreatDoor
namespace Go.Proofs.YteplcnpmdjdlkaaGreatDoor
set_option linter.unusedVariables false
set_option linter.unusedSimpArgs false
theorem seen_split (o : OpV) (h1 : 1 ≤ o.R) (h2 : o.R ≤ 64) : seenB o = (allTo (inB o) 64 && (vat o.seen (o.R.toNat - 1) == o.N - 1)) := by
  rw [Bool.eq_iff_iff, seenB, seenTo_iff, Bool.and_eq_true, allTo_iff, beq_iff_eq]
  have hc : ((o.R.toNat - 1 : Nat) : Int) = o.R - 1 := by omega
  constructor
  · intro h
    refine ⟨fun k hk => ?_, ?_⟩
    · have := h k hk
      unfold seenAt at this
      unfold inB
      simp only [Bool.and_eq_true] at this ⊢
      exact this.1
    · have := h (o.R.toNat - 1) (by omega)
      unfold seenAt at this
      simp only [Bool.and_eq_true, Bool.or_eq_true, Bool.not_eq_true', beq_eq_false_iff_ne, beq_iff_eq] at this
      rcases this.2 with h3 | h3
      · exact absurd hc h3
      · exact h3
  · rintro ⟨h, hx⟩ k hk
    have := h k hk
    unfold inB at this
    unfold seenAt
    simp only [Bool.and_eq_true, Bool.or_eq_true, Bool.not_eq_true', beq_eq_false_iff_ne, beq_iff_eq] at this ⊢
    refine ⟨this, ?_⟩
    by_cases hk2 : (k : Int) = o.R - 1
    · right
      have : k = o.R.toNat - 1 := by omega
      rw [this]; exact hx
    · exact .inl hk2
theorem obj_if (o : OpV) (nb : Bool) : namedB o o.OR o.ON nb = if objB o = true then nb else hasB o.seen o.OR o.ON := by
  unfold namedB objB
  by_cases h : o.OR = 0 ∧ o.ON = 0
  · rw [if_pos h, if_pos (by simp [h])]
  · rw [if_neg h, if_neg (by simpa using h)]
theorem at_if (o : OpV) (nb : Bool) : namedB o o.AR o.AN nb = if atB o = true then nb else hasB o.seen o.AR o.AN := by
  unfold namedB atB
  by_cases h : o.AR = 0 ∧ o.AN = 0
  · rw [if_pos h, if_pos (by simp [h])]
  · rw [if_neg h, if_neg (by simpa using h)]
theorem op_law (o : OpV) (kv zb vb : Bool) : opB o vb zb kv = ropB o (kv && decide (o.key.size ≤ 4096)) zb vb := by
  unfold opB ropB headB
  cases hg : goodB o.R o.N with
  | false => rfl
  | true =>
    have hr := (goodB_iff.1 hg).1
    rw [seen_split o hr.1 hr.2]
    unfold tailB makesB addsB
    have hA : (o.AR == 0 && o.AN == 0) = atB o := rfl
    rw [hA, obj_if, obj_if, at_if]
    generalize hasB o.seen o.OR o.ON = b1
    generalize hasB o.seen o.AR o.AN = b2
    generalize atB o = b3
    generalize objB o = b4
    generalize allTo (inB o) 64 = b5
    generalize (vat o.seen (o.R.toNat - 1) == o.N - 1) = b6
    generalize (kv && decide (o.key.size ≤ 4096)) = b7
    generalize o.key.toList.isEmpty = b8
    generalize decide (1 ≤ o.T) = b9
    generalize (o.VK != 5) = b10
    generalize (o.VK != 6) = b11
    by_cases k1 : o.K = 1
    · by_cases m0 : o.M = 0
      case pos => simp only [k1, m0]; rw [Bool.eq_iff_iff]; simp <;> grind
      by_cases m1 : o.M = 1
      case pos => simp only [k1, m1]; rw [Bool.eq_iff_iff]; simp <;> grind
      by_cases m2 : o.M = 2
      case pos => simp only [k1, m2]; rw [Bool.eq_iff_iff]; simp <;> grind
      have mm : ¬ (0 ≤ o.M ∧ o.M ≤ 2) := by omega
      simp only [k1]; rw [Bool.eq_iff_iff]; simp [m0, m1, m2] <;> (intros; omega)
    by_cases k2 : o.K = 2
    · by_cases m0 : o.M = 0
      case pos => simp only [k2, m0]; rw [Bool.eq_iff_iff]; simp <;> grind
      by_cases m1 : o.M = 1
      case pos => simp only [k2, m1]; rw [Bool.eq_iff_iff]; simp <;> grind
      by_cases m2 : o.M = 2
      case pos => simp only [k2, m2]; rw [Bool.eq_iff_iff]; simp <;> grind
      have mm : ¬ (0 ≤ o.M ∧ o.M ≤ 2) := by omega
      simp only [k2]; rw [Bool.eq_iff_iff]; simp [m0, m1, m2] <;> (intros; omega)
    by_cases k3 : o.K = 3
    · by_cases m0 : o.M = 0
      case pos => simp only [k3, m0]; rw [Bool.eq_iff_iff]; simp <;> grind
      by_cases m1 : o.M = 1
      case pos => simp only [k3, m1]; rw [Bool.eq_iff_iff]; simp <;> grind
      by_cases m2 : o.M = 2
      case pos => simp only [k3, m2]; rw [Bool.eq_iff_iff]; simp <;> grind
      have mm : ¬ (0 ≤ o.M ∧ o.M ≤ 2) := by omega
      simp only [k3]; rw [Bool.eq_iff_iff]; simp [m0, m1, m2] <;> (intros; omega)
    by_cases k4 : o.K = 4
    · by_cases m0 : o.M = 0
      case pos => simp only [k4, m0]; rw [Bool.eq_iff_iff]; simp <;> grind
      by_cases m1 : o.M = 1
      case pos => simp only [k4, m1]; rw [Bool.eq_iff_iff]; simp <;> grind
      by_cases m2 : o.M = 2
      case pos => simp only [k4, m2]; rw [Bool.eq_iff_iff]; simp <;> grind
      have mm : ¬ (0 ≤ o.M ∧ o.M ≤ 2) := by omega
      simp only [k4]; rw [Bool.eq_iff_iff]; simp [m0, m1, m2] <;> (intros; omega)
    · rw [Bool.eq_iff_iff]
      simp [k1, k2, k3, k4]
      intros
      omega
end Go.Proofs.YteplcnpmdjdlkaaGreatDoor
namespace Go.Proofs.YteplcnpmdjdlkaaGreatDoor
open Go.RowKit
set_option linter.unusedVariables false
set_option linter.unusedSimpArgs false
theorem plain_word (x : WordV) : PlainOk x.op.t := by
  unfold WordV.op
  split
  · exact fun W _ => plain_0t _ W (by show (0 : Nat) ≤ 9223372036854775807; omega) rfl rfl (by show ((⟨#[]⟩ : ByteArray).toList == []) = true; decide +kernel) rfl rfl
  · exact fun W _ => plain_2t _ W (by show (0 : Nat) ≤ 9223372036854775807; omega) rfl (by show ((⟨#[]⟩ : ByteArray).toList == []) = true; decide +kernel) rfl rfl
theorem rop_word (x : WordV) (hx : x.Ok) (w : World) : Calls Tryz.prog 14 #[opv x.op.o] w fun e w' => e = .returned (.bool x.op.good) ∧ Below w.heap.size w w' := by
  have ho := (WordV.op_ok hx).seen
  have hv := (WordV.op_ok hx).vc
  have ht : VT.In w.heap.size w x.op.t := (WordV.op_ok hx).tin _ _
  have HZ := Lib.hid (fun (W : World) (hW : Below w.heap.size w W) => hv ▸ rzero_any x.op.t W ((ht.move hW).up hW.size))
  have HV := Lib.hid (fun (W : World) (hW : Below w.heap.size w W) => hv ▸ rvalue_one x.op.t (plain_word x) W ((ht.move hW).up hW.size))
  have HS := fun W => rstr_any x.op.o.key W
  have hM : x.op.o.M = 0 := by unfold WordV.op; split <;> rfl
  have hK := word_K x
  simp only [Bool.or_eq_true, beq_iff_eq] at hK
  have key : Calls Tryz.prog 14 #[opv x.op.o] w fun e w' => e = .returned (.bool (ropB x.op.o (letC x.op.o.key == 0) (sameV x.op.t .no) (valueB x.op.t))) ∧ Below w.heap.size w w' := by
    cases hg : goodB x.op.o.R x.op.o.N
    · exact rop_g x.op.o _ _ w ho HZ HV _ hg
    by_cases h1 : x.op.o.T < 1
    · exact rop_t x.op.o _ _ w ho HZ HV _ hg h1
    rcases hK with k1 | k2
    · exact rop_kind1 x.op.o _ _ w ho HZ HV _ HS hg (by omega) k1 (by omega) (by omega)
    · exact rop_kind2 x.op.o _ _ w ho HZ HV _ HS hg (by omega) k2 (by omega) (by omega)
  have e : x.op.good = ropB x.op.o (letC x.op.o.key == 0) (sameV x.op.t .no) (valueB x.op.t) := by
    unfold OT.good
    rw [good_value, op_law]
    congr 1
    unfold letC
    cases (validS x.op.o.key).2
    · rfl
    · by_cases h : 4096 < x.op.o.key.size
      · simp [h]; try omega
      · simp [h]; try omega
  rw [e]
  exact key
end Go.Proofs.YteplcnpmdjdlkaaGreatDoor
