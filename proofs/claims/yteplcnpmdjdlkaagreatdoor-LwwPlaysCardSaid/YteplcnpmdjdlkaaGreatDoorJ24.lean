/-
  The reference's keys stand in order, each once, and are those that are on: plain. No condition.
  LwwPlays, plain: of words that came after all of one key, the last is what the map holds, and what the reference tells. No condition.
-/
import Derived.Test.YteplcnpmdjdlkaaGreatDoorRKeysJ
import Derived.Test.YteplcnpmdjdlkaaGreatDoorJ21
namespace Go.Proofs.YteplcnpmdjdlkaaGreatDoor
open Go.RowKit Go.Sort Go.Maps
set_option linter.unusedVariables false
set_option linter.unusedSimpArgs false
theorem bless_lt : ∀ {D E : List UInt8}, Op.bytesLess D E = decide (D < E)
  | [], [] => by simp [Op.bytesLess]
  | [], b :: E => by simp [Op.bytesLess]
  | a :: D, [] => by simp [Op.bytesLess]
  | a :: D, b :: E => by
    unfold Op.bytesLess
    rw [bless_lt]
    by_cases h1 : a < b <;> by_cases h2 : a = b <;> simp [List.cons_lt_cons_iff, h1, h2]
theorem lsK_iff {key : ByteArray} {a : List UInt8} : lsK key a = true ↔ a < key.data.toList := by
  unfold lsK
  rw [Lib.toList_data, Lib.toList_data, bless_lt]
  exact decide_eq_true_iff
theorem two_sorted : ∀ {A B : List (List UInt8)}, A.Pairwise (· < ·) → B.Pairwise (· < ·) → (∀ s, s ∈ A ↔ s ∈ B) → A = B := by
  intro A B hA hB h
  have hp : A.Perm B := (List.perm_ext_iff_of_nodup (hA.imp (fun h e => by subst e; exact List.lt_irrefl _ h)) (hB.imp (fun h e => by subst e; exact List.lt_irrefl _ h))).2 h
  exact hp.eq_of_pairwise (fun a b _ _ h1 h2 => absurd (List.lt_trans h1 h2) (List.lt_irrefl _)) hA hB
theorem pos_split (key : ByteArray) : ∀ {K : List (List UInt8)}, K.Pairwise (· < ·) → (∀ s ∈ K.take (posK key K), s < key.data.toList) ∧ (∀ s ∈ K.drop (posK key K), ¬ s < key.data.toList)
  | [], _ => ⟨fun s h => by simp at h, fun s h => by simp at h⟩
  | a :: K, h => by
    obtain ⟨h1, h2⟩ := List.pairwise_cons.1 h
    obtain ⟨i1, i2⟩ := pos_split key h2
    cases hq : lsK key a with
    | true =>
      have hp : posK key (a :: K) = posK key K + 1 := by unfold posK; rw [List.takeWhile_cons, hq]; rfl
      rw [hp, List.take_succ_cons, List.drop_succ_cons]
      refine ⟨fun s hs => ?_, i2⟩
      rcases List.mem_cons.1 hs with rfl | hs
      · exact lsK_iff.1 hq
      · exact i1 s hs
    | false =>
      have hp : posK key (a :: K) = 0 := by unfold posK; rw [List.takeWhile_cons, hq]; rfl
      have hn : ¬ a < key.data.toList := fun h => by rw [lsK_iff.2 h] at hq; cases hq
      rw [hp, List.take_zero, List.drop_zero]
      refine ⟨fun s hs => by simp at hs, fun s hs => ?_⟩
      rcases List.mem_cons.1 hs with rfl | hs
      · exact hn
      · exact fun h => hn (List.lt_trans (h1 s hs) h)
theorem put_sorted {key : ByteArray} {K : List (List UInt8)} (h : K.Pairwise (· < ·)) (hn : (K[posK key K]? == some key.data.toList) = false) : (K.take (posK key K) ++ key.data.toList :: K.drop (posK key K)).Pairwise (· < ·) := by
  obtain ⟨h1, h2⟩ := pos_split key h
  have hsp : (K.take (posK key K) ++ K.drop (posK key K)).Pairwise (· < ·) := by rw [List.take_append_drop]; exact h
  obtain ⟨a1, a2, a3⟩ := List.pairwise_append.1 hsp
  have hgt : ∀ s ∈ K.drop (posK key K), key.data.toList < s := fun s hs => by
    by_cases h : key.data.toList < s
    · exact h
    · exfalso
      have h : key.data.toList = s := List.le_antisymm (List.not_lt.1 (h2 s hs)) (List.not_lt.1 h)
      cases hd : K.drop (posK key K) with
      | nil => rw [hd] at hs; cases hs
      | cons b D =>
        have hb : K[posK key K]? = some b := by
          have := congrArg (fun l => l[0]?) hd
          simpa [List.getElem?_drop] using this
        rw [hd] at hs a2 h2
        rcases List.mem_cons.1 hs with he | hs
        · rw [hb, ← he, ← h] at hn; simp at hn
        · exact h2 b (List.mem_cons_self ..) (by rw [h]; exact (List.pairwise_cons.1 a2).1 s hs)
  refine List.pairwise_append.2 ⟨a1, List.pairwise_cons.2 ⟨hgt, a2⟩, fun a ha b hb => ?_⟩
  rcases List.mem_cons.1 hb with rfl | hb
  · exact h1 a ha
  · exact a3 a ha b hb
theorem keyStep_inv {r n : Int} {L : List OT} {K : List (List UInt8)} (x : OT) (h : K.Pairwise (· < ·)) : (keyStep r n L K x).Pairwise (· < ·) ∧ ∀ s, s ∈ keyStep r n L K x ↔ s ∈ K ∨ (ofObj r n x = true ∧ wordOn r n L x.o.key = true ∧ s = x.o.key.data.toList) := by
  unfold keyStep
  split
  · rename_i hc
    simp only [Bool.and_eq_true, Bool.not_eq_true'] at hc
    refine ⟨put_sorted h hc.2, fun s => ?_⟩
    rw [List.mem_append, List.mem_cons]
    have hm : s ∈ K ↔ s ∈ K.take (posK x.o.key K) ∨ s ∈ K.drop (posK x.o.key K) := by rw [← List.mem_append, List.take_append_drop]
    rw [hm]
    constructor
    · rintro (h | h | h)
      · exact .inl (.inl h)
      · exact .inr ⟨hc.1.1, hc.1.2, h⟩
      · exact .inl (.inr h)
    · rintro ((h | h) | h)
      · exact .inl h
      · exact .inr (.inr h)
      · exact .inr (.inl h.2.2)
  · rename_i hc
    refine ⟨h, fun s => ⟨.inl, fun hs => ?_⟩⟩
    rcases hs with hs | ⟨h1, h2, h3⟩
    · exact hs
    · rw [h1, h2] at hc
      simp only [Bool.true_and, Bool.and_self, Bool.not_eq_true', Bool.not_eq_false, beq_iff_eq] at hc
      rw [h3]
      exact List.mem_of_getElem? hc
theorem keysF_inv (r n : Int) (L M : List OT) : (keysF r n L M).Pairwise (· < ·) ∧ ∀ s, s ∈ keysF r n L M ↔ ∃ x ∈ M, ofObj r n x = true ∧ wordOn r n L x.o.key = true ∧ s = x.o.key.data.toList := by
  unfold keysF
  have key : ∀ (M : List OT) (K : List (List UInt8)), K.Pairwise (· < ·) → (M.foldl (keyStep r n L) K).Pairwise (· < ·) ∧ ∀ s, s ∈ M.foldl (keyStep r n L) K ↔ s ∈ K ∨ ∃ x ∈ M, ofObj r n x = true ∧ wordOn r n L x.o.key = true ∧ s = x.o.key.data.toList := by
    intro M
    induction M with
    | nil => intro K h; exact ⟨h, fun s => by simp⟩
    | cons x M ih =>
      intro K h
      rw [List.foldl_cons]
      obtain ⟨h1, h2⟩ := keyStep_inv (r := r) (n := n) (L := L) x h
      obtain ⟨i1, i2⟩ := ih _ h1
      refine ⟨i1, fun s => ?_⟩
      rw [i2, h2]
      constructor
      · rintro ((h | h) | ⟨y, hy, h⟩)
        · exact .inl h
        · exact .inr ⟨x, List.mem_cons_self .., h⟩
        · exact .inr ⟨y, List.mem_cons_of_mem _ hy, h⟩
      · rintro (h | ⟨y, hy, h⟩)
        · exact .inl (.inl h)
        · rcases List.mem_cons.1 hy with rfl | hy
          · exact .inl (.inr h)
          · exact .inr ⟨y, hy, h⟩
  have := key M [] List.Pairwise.nil
  exact ⟨this.1, fun s => by rw [this.2]; simp⟩
theorem keysW_sorted {l : Wd} (h : (l.map Prod.fst).Nodup) : (keysW l).Pairwise (· < ·) := by
  have h1 : (sortK l).Pairwise (fun x y => decide (x ≤ y) = true) := List.pairwise_mergeSort (le := fun x y : List UInt8 => decide (x ≤ y)) (fun (a b c : List UInt8) h1 h2 => decide_eq_true (List.le_trans (of_decide_eq_true h1) (of_decide_eq_true h2))) (fun (a b : List UInt8) => by
    rcases List.le_total a b with h | h <;> simp [h]) _
  have h2 : (keysW l).Pairwise (fun x y => decide (x ≤ y) = true) := by unfold keysW; exact h1.filter _
  refine (h2.and (keysW_nodup h)).imp fun {a b} hab => ?_
  by_cases hl : a < b
  · exact hl
  · exact absurd (List.le_antisymm (of_decide_eq_true hab.1) (List.not_lt.1 hl)) hab.2
end Go.Proofs.YteplcnpmdjdlkaaGreatDoor
namespace Go.Proofs.YteplcnpmdjdlkaaGreatDoor
open Go.RowKit Go.Sort Go.Maps
set_option linter.unusedVariables false
set_option linter.unusedSimpArgs false
def isWord (z : OT) : Prop := OT.Ok z ∧ (z.o.K == 1 || z.o.K == 2) = true ∧ z.o.OR = 0 ∧ z.o.ON = 0
theorem word_is (x : WordV) (h : x.Ok) : isWord x.op := ⟨WordV.op_ok h, word_K x, by unfold WordV.op; split <;> rfl, by unfold WordV.op; split <;> rfl⟩
theorem isWord.K2 {z : OT} (h : isWord z) : decide (z.o.K ≤ 2) = true := by
  have := h.2.1
  simp only [Bool.or_eq_true, beq_iff_eq] at this
  simp; omega
theorem isWord.on {z : OT} (h : isWord z) (key : ByteArray) : onKey 0 0 key z = (z.o.key.toList == key.toList) := by
  unfold onKey
  rw [h.K2, h.2.2.1, h.2.2.2]
  simp
theorem isWord.obj {z : OT} (h : isWord z) : ofObj 0 0 z = true := by
  unfold ofObj
  rw [h.K2, h.2.2.1, h.2.2.2]
  rfl
theorem fold_snoc (r n : Int) (key : ByteArray) (w : List OT) (x : OT) : wdFold r n key (w ++ [x]) = wdStep r n key (wdFold r n key w) x := by
  unfold wdFold; simp
def wantB (x : OT) (w : List OT) : Bool := x.good && w.all (fun z => !(z.o.key.toList == x.o.key.toList && !afterB x.o z.o))
/-- What the accepted words and the map say of one another. -/
structure Plays (w : List OT) (la : Wd) : Prop where
  ok : ∀ z ∈ w, isWord z
  has : ∀ k, (assoc la k = none ∧ (wdFold 0 0 k w).2 = false) ∨ ∃ y, assoc la k = some y ∧ (wdFold 0 0 k w).2 = true ∧ OT.Same (wdFold 0 0 k w).1 y ∧ (wdFold 0 0 k w).1 ∈ w ∧ (wdFold 0 0 k w).1.o.key = k
  max : ∀ z ∈ w, (wdFold 0 0 z.o.key w).2 = true ∧ (z = (wdFold 0 0 z.o.key w).1 ∨ afterB (wdFold 0 0 z.o.key w).1.o z.o = true)
theorem Plays.nil : Plays [] [] := ⟨fun z h => absurd h List.not_mem_nil, fun k => .inl ⟨rfl, rfl⟩, fun z h => absurd h List.not_mem_nil⟩
theorem after_trans2 {a b c : OpV} (h1 : afterB a b = true) (h2 : afterB b c = true) : afterB a c = true := by
  rw [after_iff] at *; omega
theorem Plays.want {w : List OT} {la : Wd} {x : OT} (h : Plays w la) (hx : isWord x) : wantB x w = accB x la := by
  unfold wantB accB
  rw [hx.2.1, Bool.true_and]
  cases hg : x.good with
  | false => rfl
  | true =>
    rw [Bool.true_and, Bool.true_and]
    rcases h.has x.o.key with ⟨h1, h2⟩ | ⟨y, h1, h2, h3, h4, h5⟩
    · rw [h1]
      show _ = true
      rw [List.all_eq_true]
      intro z hz
      have hk : (z.o.key.toList == x.o.key.toList) = false := by
        rw [beq_eq_false_iff_ne]
        intro he
        have := (h.max z hz).1
        rw [ba_eq he, h2] at this
        cases this
      rw [hk]; rfl
    · rw [h1]
      show _ = afterB x.o y.o
      rw [after_same h3]
      cases ha : afterB x.o (wdFold 0 0 x.o.key w).1.o with
      | true =>
        rw [List.all_eq_true]
        intro z hz
        cases hk : (z.o.key.toList == x.o.key.toList) with
        | false => rfl
        | true =>
          have hm := (h.max z hz).2
          rw [ba_eq (beq_iff_eq.1 hk)] at hm
          have : afterB x.o z.o = true := by
            rcases hm with hm | hm
            · rw [hm]; exact ha
            · exact after_trans2 ha hm
          rw [this]; rfl
      | false =>
        rw [List.all_eq_false]
        refine ⟨_, h4, ?_⟩
        rw [h5, ha]
        simp
theorem Plays.step {w : List OT} {la l2 : Wd} {x : OT} {r : Bool} (h : Plays w la) (hx : isWord x) (ha : Applied x la r l2) : r = wantB x w ∧ Plays (if wantB x w then w ++ [x] else w) l2 := by
  have hw := h.want hx
  obtain ⟨hr, h2⟩ := ha
  refine ⟨hr.trans hw.symm, ?_⟩
  rw [← hw] at h2
  cases hq : wantB x w with
  | false =>
    rw [hq] at h2
    have h2 : l2 = la := by simpa using h2
    subst h2
    exact h
  | true =>
    rw [hq, if_pos rfl] at h2
    rw [if_pos rfl]
    obtain ⟨y, _, hsy, rfl⟩ := h2
    have hall : ∀ z ∈ w, z.o.key = x.o.key → afterB x.o z.o = true := fun z hz hk => by
      unfold wantB at hq
      have := List.all_eq_true.1 (Bool.and_eq_true_iff.1 hq).2 z hz
      rw [hk] at this
      simpa using this
    have hself : wdFold 0 0 x.o.key (w ++ [x]) = (x, true) := by
      rw [fold_snoc]
      unfold wdStep
      rw [hx.on]
      rcases h.has x.o.key with ⟨_, h2⟩ | ⟨u, _, h2, _, h4, h5⟩
      · rw [h2]; simp
      · rw [hall _ h4 h5]; simp
    have hother : ∀ k, k ≠ x.o.key → wdFold 0 0 k (w ++ [x]) = wdFold 0 0 k w := fun k hk => by
      rw [fold_snoc]
      unfold wdStep
      rw [hx.on]
      have : (x.o.key.toList == k.toList) = false := by
        rw [beq_eq_false_iff_ne]
        exact fun he => hk (ba_eq he).symm
      rw [this]; rfl
    refine ⟨fun z hz => ?_, fun k => ?_, fun z hz => ?_⟩
    · rcases List.mem_append.1 hz with hz | hz
      · exact h.ok z hz
      · rw [List.mem_singleton.1 hz]; exact hx
    · by_cases hk : k = x.o.key
      · subst hk
        rw [hself]
        exact .inr ⟨y, assoc_same _ _ _, rfl, hsy, by simp, rfl⟩
      · rw [hother k hk, assoc_other _ _ (fun e => hk e.symm)]
        rcases h.has k with h | ⟨u, h1, h2, h3, h4, h5⟩
        · exact .inl h
        · exact .inr ⟨u, h1, h2, h3, List.mem_append_left _ h4, h5⟩
    · by_cases hk : z.o.key = x.o.key
      · rw [hk, hself]
        refine ⟨rfl, ?_⟩
        rcases List.mem_append.1 hz with hz | hz
        · exact .inr (hall z hz hk)
        · exact .inl (List.mem_singleton.1 hz)
      · rw [hother _ hk]
        rcases List.mem_append.1 hz with hz | hz
        · exact h.max z hz
        · exact absurd (by rw [List.mem_singleton.1 hz]) hk
/-- What the map tells of a key, and what the reference does. -/
theorem Plays.get {w : List OT} {la : Wd} (h : Plays w la) (k : ByteArray) : (getW la k = none ∧ wordOn 0 0 w k = false) ∨ ∃ y, getW la k = some y ∧ wordOn 0 0 w k = true ∧ OT.Same y (wdFold 0 0 k w).1 := by
  unfold getW wordOn
  rcases h.has k with ⟨h1, h2⟩ | ⟨y, h1, h2, h3, _, _⟩
  · rw [h1, h2]; exact .inl ⟨rfl, rfl⟩
  · rw [h1, h2]
    simp only [Bool.true_and]
    rw [show ((wdFold 0 0 k w).1.o.K == 1) = (y.o.K == 1) by rw [h3.K]]
    cases hk : (y.o.K == 1) with
    | true => exact .inr ⟨y, by simp, rfl, h3.symm⟩
    | false => exact .inl ⟨by simp, rfl⟩
theorem Plays.keys {w : List OT} {la : Wd} (h : Plays w la) (hn : (la.map Prod.fst).Nodup) : keysW la = keysF 0 0 w w := by
  obtain ⟨h1, h2⟩ := keysF_inv 0 0 w w
  refine two_sorted (keysW_sorted hn) h1 fun s => ?_
  rw [h2, keysW_mem]
  constructor
  · rintro ⟨y, hy, hk⟩
    rcases h.has (kb s) with ⟨e, _⟩ | ⟨u, e1, e2, e3, e4, e5⟩
    · rw [e] at hy; cases hy
    · rw [e1] at hy
      obtain rfl := Option.some.inj hy
      refine ⟨_, e4, (h.ok _ e4).obj, ?_, by rw [e5]; simp [kb]⟩
      unfold wordOn
      rw [e5, e2, e3.K, hk]
      rfl
  · rintro ⟨x, hx, _, hon, rfl⟩
    rw [kb_data]
    rcases h.get x.o.key with ⟨_, e⟩ | ⟨y, e1, _, _⟩
    · rw [e] at hon; cases hon
    · exact ⟨y, same_get e1⟩
end Go.Proofs.YteplcnpmdjdlkaaGreatDoor
