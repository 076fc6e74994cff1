/-
  Sorted pairs' keys: each once and in order, or two neighbours alike. No condition.
  value.Map at some keys, each with the one value. No condition.
  ValueMakes: what stands between two rounds. No condition.
-/
import Derived.Test.YtcpmehppfccihaaGreatDoorJ18
import Derived.Test.YtcpmehppfccihaaGreatDoorMapXJ
import Derived.Test.YtcpmehppfccihaaGreatDoorVGetJ
namespace Go.Proofs.YtcpmehppfccihaaGreatDoor
open Go.RowKit
set_option linter.unusedVariables false
set_option linter.unusedSimpArgs false
section
variable (K : List ByteArray) (x : VT)
def kAt (i : Nat) : ByteArray := K.getD i ⟨#[]⟩
def sKey (i : Nat) : ByteArray := keyS K.length (kAt K) (fun _ => x) i
def sList : List ByteArray := (sortA K.length (kAt K) (fun _ => x)).toList.map (·.1)
theorem sList_len : (sList K x).length = K.length := by unfold sList; rw [List.length_map, Array.length_toList, sortA_size]
theorem sList_at {i : Nat} (hi : i < K.length) : (sList K x)[i]'(by rw [sList_len]; exact hi) = sKey K x i := by
  unfold sList sKey keyS
  rw [List.getElem_map, Array.getElem_toList]
  rw [getElem!_pos _ i (by rw [sortA_size]; exact hi)]
theorem sList_perm : (sList K x).Perm K := by
  have hp := (sortA_all K.length (kAt K) (fun _ => x)).1.2.2
  have hs := sortA_size K.length (kAt K) (fun _ => x)
  have e1 : (sortA K.length (kAt K) (fun _ => x)).extract 0 K.length = sortA K.length (kAt K) (fun _ => x) := by
    have h := Array.extract_size (xs := sortA K.length (kAt K) (fun _ => x))
    rw [hs] at h
    exact h
  have e2 : (pairsA K.length (kAt K) (fun _ => x)).extract 0 K.length = pairsA K.length (kAt K) (fun _ => x) := by
    have h := Array.extract_size (xs := pairsA K.length (kAt K) (fun _ => x))
    rw [pairsA_size] at h
    exact h
  rw [e1, e2] at hp
  have h2 := hp.map (fun p : PK => p.1)
  have e3 : (pairsA K.length (kAt K) (fun _ => x)).toList.map (fun p : PK => p.1) = K := by
    refine List.ext_getElem (by simp [pairsA]) (fun i h1 h2 => ?_)
    rw [List.getElem_map, Array.getElem_toList]
    simp [pairsA, kAt, List.getD_eq_getElem?_getD, List.getElem?_eq_getElem h2]
  rw [e3] at h2
  exact h2
theorem sKey_le {i j : Nat} (hij : i < j) (hj : j < K.length) : ¬ cbK (sKey K x j) (sKey K x i) < 0 := by
  have := (sortA_all K.length (kAt K) (fun _ => x)).2 i j (Nat.zero_le _) hij hj
  rw [ge_iff] at this
  exact this
theorem sList_sorted (h : ∀ i j, i < j → j < K.length → sKey K x i ≠ sKey K x j) : SortedK (sList K x) := by
  unfold SortedK
  rw [List.pairwise_iff_getElem]
  intro i j hi hj hij
  rw [sList_len] at hi hj
  rw [sList_at K x hi, sList_at K x hj, ltK_iff]
  have h1 := sKey_le K x hij hj
  have h2 := cbK_anti (sKey K x i) (sKey K x j)
  rcases cbK_range (sKey K x i) (sKey K x j) with h3 | h3 | h3
  · exact h3
  · exact absurd (cbK_zero h3) (h i j hij hj)
  · omega
theorem sKey_ne (hn : K.Nodup) {i j : Nat} (hij : i < j) (hj : j < K.length) : sKey K x i ≠ sKey K x j := by
  have h := (sList_perm K x).nodup_iff.2 hn
  rw [← sList_at K x (by omega : i < K.length), ← sList_at K x hj]
  unfold List.Nodup at h
  rw [List.pairwise_iff_getElem] at h
  exact h i j (by rw [sList_len]; omega) (by rw [sList_len]; omega) hij
theorem sList_once (hn : K.Nodup) : sList K x = keysW K :=
  sorted_unique (sList_sorted K x (fun i j hij hj => sKey_ne K x hn hij hj)) (keysW_ok K).1 (fun a => ((sList_perm K x).mem_iff).trans ((keysW_ok K).2 a).symm)
theorem sKey_once (hn : K.Nodup) {i : Nat} (h0 : 0 < i) (hi : i < K.length) : ((sKey K x i).toList == (sKey K x (i - 1)).toList) = false := by
  have h := sKey_ne K x hn (show i - 1 < i by omega) hi
  cases hq : ((sKey K x i).toList == (sKey K x (i - 1)).toList) with
  | false => rfl
  | true => exact absurd (ba_eq (by simpa using hq)).symm h
theorem sKey_twice (hn : ¬ K.Nodup) : ∃ i, i + 1 < K.length ∧ (∀ j, 0 < j → j ≤ i → ((sKey K x j).toList == (sKey K x (j - 1)).toList) = false) ∧ ((sKey K x (i + 1)).toList == (sKey K x i).toList) = true := by
  have hex : ∃ i, i + 1 < K.length ∧ sKey K x (i + 1) = sKey K x i := by
    apply Classical.byContradiction
    intro hno
    apply hn
    have hadj : ∀ i, i + 1 < K.length → sKey K x (i + 1) ≠ sKey K x i := fun i hi he => hno ⟨i, hi, he⟩
    refine (sList_perm K x).nodup_iff.1 (sorted_nodup (sList_sorted K x (fun i j hij hj he => ?_)))
    rcases Nat.lt_or_ge (i + 1) j with h | h
    · have h1 := sKey_le K x (show i < i + 1 by omega) (by omega)
      have h2 := sKey_le K x h hj
      rw [← he] at h2
      have h3 := cbK_anti (sKey K x i) (sKey K x (i + 1))
      exact hadj i (by omega) (cbK_zero (by omega))
    · obtain rfl : j = i + 1 := by omega
      exact hadj i hj he.symm
  obtain ⟨i, hi, he⟩ := hex
  induction i using Nat.strongRecOn with
  | _ i ih =>
    by_cases hfirst : ∃ j, j < i ∧ sKey K x (j + 1) = sKey K x j
    · obtain ⟨j, hj, hje⟩ := hfirst
      exact ih j hj (by omega) hje
    · refine ⟨i, hi, fun j h0 hj => ?_, by rw [he]; simp⟩
      cases hq : ((sKey K x j).toList == (sKey K x (j - 1)).toList) with
      | false => rfl
      | true =>
        refine absurd ⟨j - 1, by omega, ?_⟩ hfirst
        rw [show j - 1 + 1 = j by omega]
        exact ba_eq (by simpa using hq)
theorem sKey_mem {i : Nat} (hi : i < K.length) : sKey K x i ∈ K := by
  rw [← (sList_perm K x).mem_iff, ← sList_at K x hi]
  exact List.getElem_mem _
theorem mem_sKey {k : ByteArray} (hk : k ∈ K) : ∃ i, i < K.length ∧ sKey K x i = k := by
  rw [← (sList_perm K x).mem_iff] at hk
  obtain ⟨i, hi, e⟩ := List.getElem_of_mem hk
  rw [sList_len] at hi
  exact ⟨i, hi, by rw [← sList_at K x hi]; exact e⟩
theorem first_bad {p : Nat → Bool} {n : Nat} (h : ∃ i, i < n ∧ p i = false) : ∃ i, i < n ∧ p i = false ∧ ∀ j, j < i → p j = true := by
  obtain ⟨i, hi, hp⟩ := h
  induction i using Nat.strongRecOn with
  | _ i ih =>
    by_cases hf : ∃ j, j < i ∧ p j = false
    · obtain ⟨j, hj, hje⟩ := hf
      exact ih j hj (by omega) hje
    · refine ⟨i, hi, hp, fun j hj => ?_⟩
      cases hq : p j with
      | true => rfl
      | false => exact absurd ⟨j, hj, hq⟩ hf
end
end Go.Proofs.YtcpmehppfccihaaGreatDoor
namespace Go.Proofs.YtcpmehppfccihaaGreatDoor
open Go.RowKit
set_option linter.unusedVariables false
set_option linter.unusedSimpArgs false
/-- What Map tells of these keys. -/
inductive MapRes (K : List ByteArray) (x y : VT) (g : Int) (W : World) : Prop
  | twice (h : ¬ K.Nodup) (hg : g = 5) (hy : y = .no) : MapRes K x y g W
  | letters (h : K.Nodup) (hb : ∃ k ∈ K, (letC k == 0) = false) (hg : g = 2 ∨ g = 3) (hy : y = .no) : MapRes K x y g W
  | ok (h : K.Nodup) (hb : ∀ k ∈ K, letC k = 0) (hg : g = 0) (hi : VT.In W.heap.size W y) (hs : sameV y (kmapT none 0 0 (keysW K) x) = true) : MapRes K x y g W
theorem letC_two (k : ByteArray) (h : letC k ≠ 0) : letC k = 2 ∨ letC k = 3 := by
  unfold letC at *
  (repeat' split) <;> simp_all
theorem sVal (K : List ByteArray) (x : VT) {i : Nat} (hi : i < K.length) : valS K.length (kAt K) (fun _ => x) i = x := by
  obtain ⟨j, _, _, h⟩ := sorted_from (n := K.length) (kAt K) (fun _ => x) hi
  exact h
theorem vMap_keys (K : List ByteArray) (hK : K.length ≤ 20) (hsz : AllSz K) (x : VT) (hx : ∀ B W, VT.In B W x) (hsm : VT.Sm x) (A : Option Addr) (mb c : Nat) (w : World) (ht : VT.In w.heap.size w (mapT A mb 0 K.length c (kAt K) (fun _ => x))) :
    Calls Tryz.prog 13 #[.slice A K.length c] w fun e w' => ∃ (y : VT) (g : Int), e = .returned (.tuple #[.agg y.c, .int .i64 g]) ∧ MapRes K x y g w' ∧ Below w.heap.size w w' := by
  have hks : ∀ i, i < K.length → (sKey K x i).size ≤ 9223372036854775807 := fun i hi => allSz_iff.1 hsz _ (sKey_mem K x hi)
  by_cases hn : K.Nodup
  · by_cases hl : ∃ i, i < K.length ∧ (letC (sKey K x i) == 0) = false
    · obtain ⟨i0, hi0, hb, hf⟩ := first_bad hl
      have hne : letC (sKey K x i0) ≠ 0 := by simpa using hb
      refine (vMap_let A mb 0 K.length c (kAt K) (fun _ => x) w ht hK (fun i h0 hi => sKey_once K x hn h0 hi) i0 hi0 (fun i hi => by show letC (sKey K x i) = 0; simpa using hf i hi) (letC (sKey K x i0)) rfl (by simpa using hb) hks).mono ?_
      rintro e w' ⟨he, hb'⟩
      exact ⟨.no, _, he, .letters hn ⟨_, sKey_mem K x hi0, hb⟩ (letC_two _ hne) rfl, hb'⟩
    · have hall : ∀ i, i < K.length → letC (sKey K x i) = 0 := fun i hi => by
        cases hq : (letC (sKey K x i) == 0) with
        | true => simpa using hq
        | false => exact absurd ⟨i, hi, hq⟩ hl
      refine (vMap_ok A mb 0 K.length c (kAt K) (fun _ => x) w ht hK (fun i h0 hi => sKey_once K x hn h0 hi) hall hks (fun i hi => by rw [sVal K x hi]; exact ⟨hx _ _, hsm⟩)).mono ?_
      rintro e w' ⟨y, A', g', c', he, hy, hb'⟩
      refine ⟨y, 0, he, .ok hn (fun k hk => ?_) rfl hy.tin (sameV_trans hy.same ?_), hb'⟩
      · obtain ⟨i, hi, e⟩ := mem_sKey K x hk
        rw [← e]; exact hall i hi
      · have hlen : (keysW K).length = K.length := by rw [← sList_once K x hn, sList_len]
        rw [sameV_iff]
        refine ⟨rfl, rfl, rfl, hlen.symm, rfl, fun i hi => absurd hi (Nat.not_lt_zero i), fun i hi => ?_⟩
        have hi : i < K.length := hi
        have e1 : (keysW K).getD i ⟨#[]⟩ = sKey K x i := by
          rw [← sList_at K x hi, List.getD_eq_getElem?_getD]
          have : (keysW K)[i]? = (sList K x)[i]? := by rw [sList_once K x hn]
          rw [this, List.getElem?_eq_getElem (by rw [sList_len]; exact hi)]
          rfl
        refine ⟨?_, ?_⟩
        · show (sKey K x i).toList = ((keysW K).getD i ⟨#[]⟩).toList
          rw [e1]
        · show sameV (valS K.length (kAt K) (fun _ => x) i) x = true
          rw [sVal K x hi]
          exact sameV_self x
  · obtain ⟨i, hi, hno, htw⟩ := sKey_twice K x hn
    refine (vMap_twin A mb 0 K.length c (kAt K) (fun _ => x) w ht hK i hi hno htw).mono ?_
    rintro e w' ⟨he, hb'⟩
    exact ⟨.no, 5, he, .twice hn rfl rfl, hb'⟩
/-- Such a map may be. -/
theorem kmap_good (L : List ByteArray) (n : Int) (hL : L.length ≤ 20) (hs : SortedK L) (hl : ∀ k ∈ L, letC k = 0) : goodT (kmapT none 0 0 L (VT.leaf 2 n ⟨#[]⟩)) = true := by
  have ho : ownV (kmapT none 0 0 L (VT.leaf 2 n ⟨#[]⟩)) = true := by
    unfold ownV ownB kmapT mapT
    simp [VT.k, VT.n, VT.s, VT.mn, VT.ln, Lib.toList_data]
  have hx : ownV (VT.leaf 2 n ⟨#[]⟩) = true := by
    unfold ownV ownB VT.leaf
    simp [VT.k, VT.n, VT.s, VT.mn, VT.ln, Lib.toList_data]
  have hj : ∀ m : Int, m ≤ 100 → judgeT ownV letC (VT.leaf 2 n ⟨#[]⟩) (1 + 1) m = (true, m + 1) := fun m hm => by
    rw [judgeT_eq, hx]
    have e1 : (decide ((4096 : Int) < m + 1) || decide ((32 : Int) < 1 + 1) || !true) = false := by simp; omega
    rw [if_neg (by rw [e1]; simp)]
    rfl
  have hat : ∀ i, i < L.length → L.getD i ⟨#[]⟩ ∈ L := fun i hi => by
    rw [List.getD_eq_getElem?_getD, List.getElem?_eq_getElem hi]
    exact List.getElem_mem hi
  have hrun : ∀ k, k ≤ L.length → runTo (judgeM ownV letC (kmapT none 0 0 L (VT.leaf 2 n ⟨#[]⟩)) 1) k 1 = (true, (k : Int) + 1) := by
    intro k
    induction k with
    | zero => intro _; rfl
    | succ k ih =>
      intro hk
      rw [runTo, ih (by omega), if_pos rfl]
      show (if decide (0 < k) && !risesB (L.getD (k - 1) ⟨#[]⟩) (L.getD k ⟨#[]⟩) || !(letC (L.getD k ⟨#[]⟩) == 0) then _ else _) = _
      have h1 : letC (L.getD k ⟨#[]⟩) = 0 := hl _ (hat k (by omega))
      have h2 : (decide (0 < k) && !risesB (L.getD (k - 1) ⟨#[]⟩) (L.getD k ⟨#[]⟩)) = false := by
        rcases Nat.eq_zero_or_pos k with h0 | h0
        · subst h0; rfl
        · have hp : ltK (L.getD (k - 1) ⟨#[]⟩) (L.getD k ⟨#[]⟩) = true := by
            unfold SortedK at hs
            rw [List.pairwise_iff_getElem] at hs
            have := hs (k - 1) k (by omega) (by omega) (by omega)
            rw [List.getD_eq_getElem?_getD, List.getElem?_eq_getElem (by omega : k - 1 < L.length), List.getD_eq_getElem?_getD, List.getElem?_eq_getElem (by omega : k < L.length)]
            exact this
          have hr : risesB (L.getD (k - 1) ⟨#[]⟩) (L.getD k ⟨#[]⟩) = true := by
            unfold risesB
            have a1 : Op.bytesLess (L.getD k ⟨#[]⟩).toList (L.getD (k - 1) ⟨#[]⟩).toList = false := by
              cases hq : Op.bytesLess (L.getD k ⟨#[]⟩).toList (L.getD (k - 1) ⟨#[]⟩).toList with
              | false => rfl
              | true => have := ltK_trans hp hq; rw [ltK_irr] at this; cases this
            have a2 : ((L.getD k ⟨#[]⟩).toList == (L.getD (k - 1) ⟨#[]⟩).toList) = false := by
              cases hq : ((L.getD k ⟨#[]⟩).toList == (L.getD (k - 1) ⟨#[]⟩).toList) with
              | false => rfl
              | true => exact absurd (ba_eq (by simpa using hq)).symm (ltK_ne hp)
            rw [a1, a2]
            rfl
          rw [hr]
          simp
      rw [h1, h2]
      show (if (false || !((0 : Int) == 0)) = true then _ else judgeT ownV letC (VT.leaf 2 n ⟨#[]⟩) (1 + 1) ((k : Int) + 1)) = _
      rw [if_neg (by simp), hj _ (by omega)]
      simp
  unfold goodT
  rw [judgeT_eq, ho]
  have e : (decide ((4096 : Int) < 0 + 1) || decide ((32 : Int) < 1) || !true) = false := by decide
  rw [if_neg (by rw [e]; decide)]
  show (if (runTo (judgeL ownV letC (kmapT none 0 0 L (VT.leaf 2 n ⟨#[]⟩)) 1) 0 (0 + 1)).1 = true then runTo (judgeM ownV letC (kmapT none 0 0 L (VT.leaf 2 n ⟨#[]⟩)) 1) L.length 1 else _).1 = true
  rw [if_pos (show (runTo _ 0 _).1 = true from rfl), hrun L.length (Nat.le_refl _)]
end Go.Proofs.YtcpmehppfccihaaGreatDoor
namespace Go.Proofs.YtcpmehppfccihaaGreatDoor
open Go.RowKit
set_option linter.unusedVariables false
set_option linter.unusedSimpArgs false
def X4 (n : Int) : VT := VT.leaf 2 n ⟨#[]⟩
/-- A map's keys, told. -/
theorem getV_kmap (A : Option Addr) (g c : Nat) (L : List ByteArray) (x : VT) (key : ByteArray) : ((getV (kmapT A g c L x) key).2 = true ↔ key ∈ L) := by
  have hk : (kmapT A g c L x).k = 6 := rfl
  have hn : (kmapT A g c L x).mn = L.length := rfl
  have hat : ∀ i, isK (kmapT A g c L x) key i = ((L.getD i ⟨#[]⟩).toList == key.toList) := fun i => rfl
  by_cases hm : key ∈ L
  · obtain ⟨i, hi, e⟩ := List.getElem_of_mem hm
    have hex : ∃ j, j < L.length ∧ (!isK (kmapT A g c L x) key j) = false := ⟨i, hi, by rw [hat, List.getD_eq_getElem?_getD, List.getElem?_eq_getElem hi]; simp [e]⟩
    obtain ⟨j, hj, hb, hf⟩ := first_bad (p := fun j => !isK (kmapT A g c L x) key j) hex
    have hs := find_some (t := kmapT A g c L x) (key := key) (i := j) hj (by simpa using hb) (fun q hq => by simpa using hf q hq)
    unfold getV
    rw [if_pos hk, hs]
    simp [hm]
  · have hnone := find_none (t := kmapT A g c L x) (key := key) (fun j hj => by
      rw [hat, List.getD_eq_getElem?_getD, List.getElem?_eq_getElem (show j < L.length from hj)]
      cases hq : (L[j].toList == key.toList) with
      | false => exact hq
      | true => exact absurd (by rw [← ba_eq (by simpa using hq : L[j].toList = key.toList)]; exact List.getElem_mem _) hm)
    unfold getV
    rw [if_pos hk, hnone]
    simp [hm]
/-- Whether a key stood twice. -/
def TwI (K : List ByteArray) (i : Nat) (h : Int) : Prop := (h = 0 ∧ (K.take i).Nodup) ∨ (h = 5 ∧ ¬ (K.take i).Nodup)
theorem take_kAt (K : List ByteArray) {i : Nat} (hi : i < K.length) : K.take (i + 1) = K.take i ++ [kAt K i] := by
  unfold kAt
  rw [List.take_add_one, List.getD_eq_getElem?_getD, List.getElem?_eq_getElem hi]
  rfl
theorem TwI.yes {K : List ByteArray} {i : Nat} {h : Int} (hi : i < K.length) (hm : kAt K i ∈ K.take i) : TwI K (i + 1) 5 := by
  refine .inr ⟨rfl, fun hn => ?_⟩
  rw [take_kAt K hi, List.nodup_append] at hn
  exact hn.2.2 _ hm _ (List.mem_singleton.2 rfl) rfl
theorem TwI.no {K : List ByteArray} {i : Nat} {h : Int} (hi : i < K.length) (hm : kAt K i ∉ K.take i) (ht : TwI K i h) : TwI K (i + 1) h := by
  rcases ht with ⟨rfl, hn⟩ | ⟨rfl, hn⟩
  · refine .inl ⟨rfl, ?_⟩
    rw [take_kAt K hi, List.nodup_append]
    refine ⟨hn, List.pairwise_singleton _ _, fun a ha b hb e => hm ?_⟩
    rw [← List.mem_singleton.1 hb, ← e]
    exact ha
  · refine .inr ⟨rfl, fun h1 => hn ?_⟩
    rw [take_kAt K hi, List.nodup_append] at h1
    exact h1.1
theorem kmap_at {P : Nat → Prop} (A : Option Addr) (g c : Nat) (L : List ByteArray) (n : Int) (h : 0 < L.length → P g) : VT.At P (kmapT A g c L (X4 n)) :=
  .mk (fun h0 => absurd h0 (Nat.lt_irrefl 0)) h (fun i hi => absurd hi (Nat.not_lt_zero i)) (fun i hi => VT.leaf_at _ _ _ _)
theorem kmap_in0 (B : Nat) (W : World) (A : Option Addr) (g c : Nat) (x : VT) : VT.In B W (kmapT A g c [] x) :=
  .mk ⟨by show (-9223372036854775808 : Int) ≤ 0; omega, by show (0 : Int) ≤ 9223372036854775807; omega, by show (-9223372036854775808 : Int) ≤ 6; omega, by show (6 : Int) ≤ 9223372036854775807; omega, by show (0 : Nat) ≤ _; omega, by show (0 : Nat) ≤ _; omega, by show (0 : Nat) ≤ _; omega, fun h => absurd h (Nat.lt_irrefl 0), fun h => absurd h (Nat.lt_irrefl 0), fun i hi => absurd hi (Nat.not_lt_zero i), fun i hi => absurd hi (Nat.not_lt_zero i), fun i hi => absurd hi (Nat.not_lt_zero i)⟩ (fun i hi => absurd hi (Nat.not_lt_zero i)) (fun i hi => absurd hi (Nat.not_lt_zero i))
theorem kmap_same (A : Option Addr) (g c : Nat) (L : List ByteArray) (x : VT) : sameV (kmapT none 0 0 L x) (kmapT A g c L x) = true := by
  rw [sameV_iff]
  exact ⟨rfl, rfl, rfl, rfl, rfl, fun i hi => absurd hi (Nat.not_lt_zero i), fun i hi => ⟨rfl, sameV_self x⟩⟩
theorem keysW_len (K : List ByteArray) : (keysW K).length ≤ K.length := by
  have h : ∀ (M : List ByteArray), (keysW M.reverse).length ≤ M.length := by
    intro M
    induction M with
    | nil => exact Nat.le_refl _
    | cons k M ih =>
      rw [List.reverse_cons, keysW_snoc, List.length_cons]
      have := withL_len k (keysW M.reverse)
      omega
  have := h K.reverse
  rwa [List.reverse_reverse, List.length_reverse] at this
theorem keysW_sz {K : List ByteArray} (h : AllSz K) (i : Nat) : AllSz (keysW (K.take i)) :=
  allSz_iff.2 fun k hk => allSz_iff.1 h k (List.mem_of_mem_take (((keysW_ok _).2 _).1 hk))
/-- Between two rounds: the map so far in b17's box, the row of pairs so far. -/
structure MkI (K : List ByteArray) (n : Int) (w : World) (b17 i j : Nat) (mv : Value) (A : Option Addr) (g c : Nat) (W : World) : Prop where
  b0 : w.heap.size ≤ b17
  below : Below w.heap.size w W
  box : W.heap[b17]? = some (.cells (kmapT A g c (keysW (K.take i)) (X4 n)).c 27 (0, 0))
  tin : VT.In W.heap.size W (kmapT A g c (keysW (K.take i)) (X4 n))
  own : W.ownsRow (b17 + 1) 34 6 mv j (rowOf (K.take j) (X4 n))
  sep : 0 < (keysW (K.take i)).length → b17 < g ∧ mv.ownBlock ≠ some g
section
variable {K : List ByteArray} {n : Int} {w W W1 : World} {b17 i j g c : Nat} {mv : Value} {A : Option Addr}
theorem MkI.lt (h : MkI K n w b17 i j mv A g c W) : b17 < W.heap.size := (Array.getElem?_eq_some_iff.1 h.box).1
theorem MkI.step (h : MkI K n w b17 i j mv A g c W) (h1 : Below W.heap.size W W1) : MkI K n w b17 i j mv A g c W1 :=
  ⟨h.b0, h.below.trans (h1.mono h.below.size), (h1.block _ h.lt).trans h.box, (h.tin.move h1).up h1.size, h.own.kept (grown_of h1 none) (own_not fun b _ e => by cases e), h.sep⟩
theorem MkI.start (h0 : w.heap.size ≤ b17) (hb : Below w.heap.size w W) (hx : W.heap[b17]? = some (.cells (kmapT none 0 0 [] (X4 n)).c 27 (0, 0))) : MkI K n w b17 0 0 (.slice none 0 0) none 0 0 W :=
  ⟨h0, hb, hx, kmap_in0 _ _ _ _ _ _, World.ownsRow_nil _ _ _ _, fun h => absurd h (Nat.lt_irrefl 0)⟩
theorem MkI.put {g' c' : Nat} {W3 : World} (h : MkI K n w b17 i j mv A g c W) (hi : i < K.length) (h1 : Below W.heap.size W W1) (hg : W.heap.size ≤ g') (ht : VT.In W1.heap.size W1 (kmapT (some ⟨g', 0, none⟩) g' c' (withL (kAt K i) (keysW (K.take i))) (X4 n)))
    (hn : W3.heap[b17]? = some (.cells (kmapT (some ⟨g', 0, none⟩) g' c' (withL (kAt K i) (keysW (K.take i))) (X4 n)).c 27 (0, 0))) (hb : Below b17 W1 W3) (ho : ∀ k, k ≠ b17 → W3.heap[k]? = W1.heap[k]?) (hs : W3.heap.size = W1.heap.size) : MkI K n w b17 (i + 1) j mv (some ⟨g', 0, none⟩) g' c' W3 := by
  have hL : keysW (K.take (i + 1)) = withL (kAt K i) (keysW (K.take i)) := by rw [take_kAt K hi, keysW_snoc]
  have h2 := h.step h1
  have hlt := h.lt
  refine ⟨h.b0, ?_, ?_, ?_, ?_, fun _ => ⟨by omega, fun e => ?_⟩⟩
  · exact h2.below.trans (hb.mono h.b0)
  · rw [hL]; exact hn
  · rw [hL, hs]
    exact ht.but (kmap_at _ _ _ _ _ (fun _ => by omega)) ho
  · refine h2.own.kept (grown_put hb ho hs) (own_not fun b e1 e2 => ?_)
    have := (own_at h2.own e1).1
    injection e2 with e2
    omega
  · have := (own_at h.own e).2
    omega
theorem MkI.app {v' : Value} {W2 : World} (h : MkI K n w b17 i j mv A g c W) (hj : j < K.length) (hown : W2.ownsRow (b17 + 1) 34 6 v' (j + 1) (rowOf (K.take j) (X4 n) ++ (pcK (kAt K j) (X4 n)).toList)) (h2 : W.grownBy W2 mv.ownBlock) (hat : v'.ownBlock = mv.ownBlock ∨ v'.ownBlock = some W.heap.size) : MkI K n w b17 i (j + 1) v' A g c W2 := by
  have hlt := h.lt
  have hoL : ∀ k, mv.ownBlock = some k → b17 + 1 ≤ k := fun k e => (own_at h.own e).1
  have hb : Below (b17 + 1) W W2 := below_of_grown h2 (by omega) hoL
  refine ⟨h.b0, h.below.trans (hb.mono (by have := h.b0; omega)), (hb.block _ (by omega)).trans h.box, ?_, ?_, fun hl => ⟨(h.sep hl).1, fun e => ?_⟩⟩
  · refine (h.tin.keep (P := fun b => b < W.heap.size ∧ mv.ownBlock ≠ some b) (h.tin.at_.and (kmap_at _ _ _ _ _ (fun hl => (h.sep hl).2))) (fun b ⟨hb1, hb2⟩ => h2.block b hb1 (fun e => hb2 e.symm))).up h2.size
  · rw [take_kAt K hj]
    unfold rowOf at hown ⊢
    simpa using hown
  · rcases hat with ha | ha
    · exact (h.sep hl).2 (ha.symm.trans e)
    · have : W.heap.size = g := Option.some.inj (ha.symm.trans e)
      have := (h.tin.here.ma hl).2
      have e2 : (kmapT A g c (keysW (K.take i)) (X4 n)).mb = g := rfl
      omega
theorem MkI.rowIn (h : MkI K n w b17 i K.length mv A g c W) (hsz : AllSz K) (hx : VT.In W.heap.size W (X4 n)) : ∃ (A1 : Option Addr) (m1 c1 : Nat), mv = .slice A1 K.length c1 ∧ VT.In W.heap.size W (mapT A1 m1 0 K.length c1 (kAt K) (fun _ => X4 n)) := by
  have hown := h.own
  rw [List.take_length] at hown
  rcases hown.2 with ⟨e, h0⟩ | ⟨g1, cap, cur, e, hb, hr, hc, hm, hcs, ht⟩
  · refine ⟨none, 0, 0, by rw [e, h0], ?_⟩
    have := kmap_in0 W.heap.size W none 0 0 (X4 n)
    have hK : K = [] := List.eq_nil_of_length_eq_zero h0
    subst hK
    exact this
  · refine ⟨some ⟨g1, 0, none⟩, g1, cap, e, ?_⟩
    refine map_in hr (fun i hi q u hu => ?_) (by unfold maxLen at hm; omega) (fun i hi => hsz i) (fun _ _ => hx)
    have hq : q < 6 := (Array.getElem?_eq_some_iff.1 hu).1
    have h1 := rowOf_at K (X4 n) i hi q u hu
    rw [← ht, List.getElem?_take_of_lt (by omega), Array.getElem?_toList] at h1
    exact h1
end
end Go.Proofs.YtcpmehppfccihaaGreatDoor
