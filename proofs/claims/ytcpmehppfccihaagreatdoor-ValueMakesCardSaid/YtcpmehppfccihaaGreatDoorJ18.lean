/-
  The sorted pairs are the pairs given, in plain Lean. No condition.
  A map with a key, by rising keys: as the reference's With goes, in plain Lean. No condition.
  What stands between two rounds of the reference's With, at a map whose values are one value without parts. No condition.
  Keys in order: a map with each of some keys has them in order, each once; sorted they stand the same. No condition.
-/
import Derived.Test.YtcpmehppfccihaaGreatDoorMapJ
import Derived.Test.YtcpmehppfccihaaGreatDoorJ6
import Derived.Test.YtcpmehppfccihaaGreatDoorJ24
import Derived.Test.YtcpmehppfccihaaGreatDoorJ7
namespace Go.Proofs.YtcpmehppfccihaaGreatDoor
open Go.RowKit
set_option linter.unusedVariables false
set_option linter.unusedSimpArgs false
theorem sorted_from {n : Nat} (key : Nat → ByteArray) (mt : Nat → VT) {i : Nat} (hi : i < n) : ∃ j, j < n ∧ keyS n key mt i = key j ∧ valS n key mt i = mt j := by
  have hp := (sortA_all n key mt).1.2.2
  have hs := sortA_size n key mt
  have e1 : (sortA n key mt).extract 0 n = sortA n key mt := by
    have h := Array.extract_size (xs := sortA n key mt)
    rw [hs] at h
    exact h
  have e2 : (pairsA n key mt).extract 0 n = pairsA n key mt := by
    have h := Array.extract_size (xs := pairsA n key mt)
    rw [pairsA_size] at h
    exact h
  rw [e1, e2] at hp
  have hm : (sortA n key mt)[i]! ∈ (sortA n key mt).toList := by
    rw [getElem!_pos _ i (by rw [hs]; exact hi)]
    simp
  have hm2 := hp.mem_iff.1 hm
  obtain ⟨j, hj, he⟩ := List.getElem_of_mem hm2
  have hj' : j < n := by simpa [pairsA_size] using hj
  refine ⟨j, hj', ?_, ?_⟩
  · unfold keyS
    rw [← he]
    simp [pairsA]
  · unfold valS
    rw [← he]
    simp [pairsA]
end Go.Proofs.YtcpmehppfccihaaGreatDoor
namespace Go.Proofs.YtcpmehppfccihaaGreatDoor
set_option linter.unusedVariables false
set_option linter.unusedSimpArgs false
def ltK (a b : ByteArray) : Bool := Op.bytesLess a.toList b.toList
def eqK (a b : ByteArray) : Bool := a.toList == b.toList
def wStep (key : ByteArray) (st : Bool × List ByteArray) (k : ByteArray) : Bool × List ByteArray :=
  (st.1 || !ltK k key, if eqK k key then (if !st.1 && !ltK k key then st.2 ++ [key] else st.2) else (if !st.1 && !ltK k key then st.2 ++ [key] else st.2) ++ [k])
def wFold (key : ByteArray) (L : List ByteArray) : Bool × List ByteArray := L.foldl (wStep key) (false, [])
def withL (key : ByteArray) (L : List ByteArray) : List ByteArray := if (wFold key L).1 then (wFold key L).2 else (wFold key L).2 ++ [key]
theorem wFold_succ (key : ByteArray) (L : List ByteArray) {i : Nat} {k : ByteArray} (hk : L[i]? = some k) : wFold key (L.take (i + 1)) = wStep key (wFold key (L.take i)) k := by
  unfold wFold
  rw [List.take_add_one, hk]
  simp
/-- One more may come, till it has. -/
def slack : Bool → Nat
  | true => 0
  | false => 1
theorem wStep_len (key : ByteArray) (st : Bool × List ByteArray) (k : ByteArray) : (wStep key st k).2.length + slack (wStep key st k).1 ≤ st.2.length + slack st.1 + 1 := by
  obtain ⟨d, e⟩ := st
  unfold wStep
  cases d <;> cases ltK k key <;> cases eqK k key <;> simp [slack]
theorem wFold_len (key : ByteArray) (L : List ByteArray) : (wFold key L).2.length + slack (wFold key L).1 ≤ L.length + 1 := by
  have key2 : ∀ (L : List ByteArray) (st : Bool × List ByteArray), (L.foldl (wStep key) st).2.length + slack (L.foldl (wStep key) st).1 ≤ L.length + (st.2.length + slack st.1) := by
    intro L
    induction L with
    | nil => intro st; simp
    | cons k L ih =>
      intro st
      have h1 := ih (wStep key st k)
      have h2 := wStep_len key st k
      simp only [List.foldl_cons, List.length_cons]
      omega
  exact key2 L (false, [])
theorem withL_len (key : ByteArray) (L : List ByteArray) : (withL key L).length ≤ L.length + 1 := by
  have := wFold_len key L
  unfold withL
  cases hd : (wFold key L).1 <;> rw [hd] at this <;> simp [slack] at this ⊢ <;> omega
/-- Every place of the list holds a string that a machine can hold. -/
def AllSz (L : List ByteArray) : Prop := ∀ i, (L.getD i ⟨#[]⟩).size ≤ 9223372036854775807
theorem allSz_iff {L : List ByteArray} : AllSz L ↔ ∀ k ∈ L, k.size ≤ 9223372036854775807 := by
  constructor
  · intro h k hk
    obtain ⟨i, hi, e⟩ := List.getElem_of_mem hk
    have := h i
    rw [List.getD_eq_getElem?_getD, List.getElem?_eq_getElem hi, e] at this
    exact this
  · intro h i
    rw [List.getD_eq_getElem?_getD]
    cases hq : L[i]? with
    | none => exact Nat.zero_le _
    | some k => exact h k (List.mem_of_getElem? hq)
theorem AllSz.snoc {L : List ByteArray} {k : ByteArray} (h : AllSz L) (hk : k.size ≤ 9223372036854775807) : AllSz (L ++ [k]) := by
  rw [allSz_iff] at *
  intro x hx
  rcases List.mem_append.1 hx with h1 | h1
  · exact h x h1
  · rw [List.mem_singleton.1 h1]; exact hk
theorem wStep_sz {key : ByteArray} {st : Bool × List ByteArray} {k : ByteArray} (h : AllSz st.2) (h1 : key.size ≤ 9223372036854775807) (h2 : k.size ≤ 9223372036854775807) : AllSz (wStep key st k).2 := by
  unfold wStep
  simp only
  (repeat' split) <;> first | exact h | exact h.snoc h1 | exact h.snoc h2 | exact (h.snoc h1).snoc h2
theorem wFold_sz (key : ByteArray) (L : List ByteArray) (h : AllSz L) (hk : key.size ≤ 9223372036854775807) : AllSz (wFold key L).2 := by
  rw [allSz_iff] at h
  have go : ∀ (L : List ByteArray) (st : Bool × List ByteArray), (∀ k ∈ L, k.size ≤ 9223372036854775807) → AllSz st.2 → AllSz (L.foldl (wStep key) st).2 := by
    intro L
    induction L with
    | nil => intro st _ h; exact h
    | cons k L ih =>
      intro st hL hst
      exact ih _ (fun x hx => hL x (List.mem_cons_of_mem _ hx)) (wStep_sz hst hk (hL k List.mem_cons_self))
  exact go L (false, []) h (by rw [allSz_iff]; intro k hk; cases hk)
theorem wFold_ne (key : ByteArray) (L : List ByteArray) : (wFold key L).1 = true → 0 < (wFold key L).2.length := by
  have go : ∀ (L : List ByteArray) (st : Bool × List ByteArray), (st.1 = true → 0 < st.2.length) → ((L.foldl (wStep key) st).1 = true → 0 < (L.foldl (wStep key) st).2.length) := by
    intro L
    induction L with
    | nil => intro st h; exact h
    | cons k L ih =>
      intro st hst
      refine ih _ ?_
      obtain ⟨d, e⟩ := st
      intro h
      unfold wStep at h ⊢
      cases d
      · simp at h
        cases eqK k key <;> simp [h]
      · have := hst rfl
        cases eqK k key <;> simp <;> simpa using this
  exact go L (false, []) (fun h => by cases h)
end Go.Proofs.YtcpmehppfccihaaGreatDoor
namespace Go.Proofs.YtcpmehppfccihaaGreatDoor
open Go.RowKit
set_option linter.unusedVariables false
set_option linter.unusedSimpArgs false
set_option linter.unusedSectionVars false
def rowOf (E : List ByteArray) (x : VT) : List Value := E.flatMap fun k => (pcK k x).toList
theorem rowOf_snoc (E : List ByteArray) (k : ByteArray) (x : VT) : rowOf (E ++ [k]) x = rowOf E x ++ (pcK k x).toList := by unfold rowOf; simp
theorem rowOf_len (E : List ByteArray) (x : VT) : (rowOf E x).length = E.length * 6 := by
  induction E with
  | nil => rfl
  | cons k E ih =>
    show ((pcK k x).toList ++ rowOf E x).length = _
    rw [List.length_append, ih]
    show 6 + _ = _
    rw [List.length_cons]
    omega
theorem rowOf_at (E : List ByteArray) (x : VT) : ∀ (i : Nat), i < E.length → ∀ (j : Nat) u, (pcK (E.getD i ⟨#[]⟩) x)[j]? = some u → (rowOf E x)[i * 6 + j]? = some u := by
  induction E with
  | nil => intro i hi; exact absurd hi (Nat.not_lt_zero i)
  | cons k E ih =>
    intro i hi j u hu
    have hj : j < 6 := (Array.getElem?_eq_some_iff.1 hu).1
    have h6 : (pcK k x).toList.length = 6 := rfl
    show ((pcK k x).toList ++ rowOf E x)[i * 6 + j]? = some u
    cases i with
    | zero =>
      rw [Nat.zero_mul, Nat.zero_add, List.getElem?_append_left (by omega), Array.getElem?_toList]
      exact hu
    | succ i =>
      rw [List.getElem?_append_right (by omega), h6, show (i + 1) * 6 + j - 6 = i * 6 + j by omega]
      exact ih i (by simpa using hi) j u hu
/-- A map with these keys, each with the one value. -/
def kmapT (A : Option Addr) (g c : Nat) (L : List ByteArray) (x : VT) : VT := mapT A g 0 L.length c (fun i => L.getD i ⟨#[]⟩) (fun _ => x)
def outM (sM : Value) : Array Value := #[.int .i64 6, .int .i64 0, .string ⟨#[]⟩, .slice none 0 0, sM]
structure RwI (t x : VT) (w : World) (sM : Value) (E : List ByteArray) (W : World) : Prop where
  below : Below w.heap.size w W
  box : W.heap[w.heap.size]? = some (.cells t.c 27 (0, 0))
  bx : W.heap[w.heap.size + 1]? = some (.cells x.c 27 (0, 0))
  res : W.heap[w.heap.size + 2]? = some (.cells VT.no.c 27 (0, 0))
  out : W.heap[w.heap.size + 3]? = some (.cells (outM sM) 27 (0, 0))
  size : w.heap.size + 4 ≤ W.heap.size
  own : W.ownsRow (w.heap.size + 4) 34 6 sM E.length (rowOf E x)
theorem RwI.step {t x : VT} {w W W1 : World} {sM : Value} {E : List ByteArray} (h : RwI t x w sM E W) (h1 : Below W.heap.size W W1) : RwI t x w sM E W1 := by
  have hsz := h.size
  exact ⟨h.below.trans (h1.mono h.below.size), (h1.block _ (by omega)).trans h.box, (h1.block _ (by omega)).trans h.bx, (h1.block _ (by omega)).trans h.res, (h1.block _ (by omega)).trans h.out, Nat.le_trans hsz h1.size, h.own.kept (grown_of h1 none) (own_not fun b _ e => by cases e)⟩
theorem RwI.app {t x : VT} {w W W2 W3 : World} {sM v' : Value} {E : List ByteArray} {k : ByteArray} (h : RwI t x w sM E W) (hown : W2.ownsRow (w.heap.size + 4) 34 6 v' (E.length + 1) (rowOf E x ++ (pcK k x).toList)) (h2 : W.grownBy W2 sM.ownBlock)
    (hn : W3.heap[w.heap.size + 3]? = some (.cells (outM v') 27 (0, 0))) (hb : Below (w.heap.size + 3) W2 W3) (ho : ∀ k, k ≠ w.heap.size + 3 → W3.heap[k]? = W2.heap[k]?) (hs : W3.heap.size = W2.heap.size) : RwI t x w v' (E ++ [k]) W3 := by
  have h3 := grown_put hb ho hs
  have hsz := h.size
  have hz2 := h2.size
  have keep : ∀ b, b < w.heap.size + 3 → W3.heap[b]? = W.heap[b]? := fun b hb => (ho b (by omega)).trans (h2.block b (by omega) (fun e => by have := (own_at h.own e.symm).1; omega))
  refine ⟨?_, (keep _ (by omega)).trans h.box, (keep _ (by omega)).trans h.bx, (keep _ (by omega)).trans h.res, hn, by omega, ?_⟩
  · refine ⟨h3.os.trans (h2.os.trans h.below.os), h3.tape.trans (h2.tape.trans h.below.tape), h3.output.trans (h2.output.trans h.below.output), by have := h.below.size; omega, fun b hb => (keep b (by omega)).trans (h.below.block b hb)⟩
  · rw [rowOf_snoc, List.length_append]
    exact hown.kept h3 (.inr (fun e => by have := (own_at hown e).1; omega))
theorem RwI.end_ {t x : VT} {w W W3 : World} {sM : Value} {E : List ByteArray} (hx : ∀ B W, VT.In B W x) (hE : ∀ i, i < E.length → (E.getD i ⟨#[]⟩).size ≤ 9223372036854775807) (hn : 0 < E.length) (h : RwI t x w sM E W) (ho : ∀ k, k ≠ w.heap.size + 2 → W3.heap[k]? = W.heap[k]?) (hs : W3.heap.size = W.heap.size) : ∃ g c : Nat, outM sM = (kmapT (some ⟨g, 0, none⟩) g c E x).c ∧ VT.In W3.heap.size W3 (kmapT (some ⟨g, 0, none⟩) g c E x) ∧ w.heap.size ≤ g := by
  have hsz := h.size
  rcases h.own.2 with ⟨_, h0⟩ | ⟨g, cap, cur, rfl, hb, hg, hc, hm, hcs, ht⟩
  · omega
  · refine ⟨g, cap, rfl, ?_, by omega⟩
    have hg3 : W3.heap[g]? = some (.cells cur 34 (0, 0)) := (ho g (by omega)).trans hg
    have hE' : ∀ i, i < E.length → (E.getD i ⟨#[]⟩).size ≤ 9223372036854775807 := hE
    have hcell : ∀ i, i < E.length → ∀ (j : Nat) u, (pcK (E.getD i ⟨#[]⟩) x)[j]? = some u → cur[i * 6 + j]? = some u := fun i hi j u hu => by
      have hj : j < 6 := (Array.getElem?_eq_some_iff.1 hu).1
      have h1 := rowOf_at E x i hi j u hu
      rw [← ht, List.getElem?_take_of_lt (by omega), Array.getElem?_toList] at h1
      exact h1
    exact map_in hg3 hcell (by unfold maxLen at hm; omega) hE' (fun _ _ => hx _ _)
end Go.Proofs.YtcpmehppfccihaaGreatDoor
namespace Go.Proofs.YtcpmehppfccihaaGreatDoor
open Go.RowKit
set_option linter.unusedVariables false
set_option linter.unusedSimpArgs false
theorem less_kb {D E : List UInt8} : Op.bytesLess D E = decide (Lib.compareBytes D E = -1) := by
  induction D generalizing E with
  | nil => cases E <;> simp [Op.bytesLess, Lib.compareBytes]
  | cons a D ih =>
    cases E with
    | nil => simp [Op.bytesLess, Lib.compareBytes]
    | cons b E =>
      rw [kb_cons]
      unfold Op.bytesLess
      by_cases h1 : a.toNat < b.toNat
      · have : a < b := h1
        rw [if_pos h1]; simp [this]
      · have h1' : ¬ a < b := h1
        rw [if_neg h1]
        by_cases h2 : b.toNat < a.toNat
        · have hne : (a == b) = false := by
            cases hq : a == b
            · rfl
            · have := eq_of_beq hq; subst this; omega
          rw [if_pos h2, hne]; simp [h1']
        · have hab : a = b := UInt8.toNat_inj.1 (by omega)
          subst hab
          rw [if_neg h2, ih]
          simp [h1']
def cbK (a b : ByteArray) : Int := Lib.compareBytes a.data.toList b.data.toList
theorem ltK_iff (a b : ByteArray) : ltK a b = true ↔ cbK a b = -1 := by
  unfold ltK cbK
  rw [less_kb, Lib.toList_data, Lib.toList_data]
  exact decide_eq_true_iff
theorem cbK_range (a b : ByteArray) : cbK a b = -1 ∨ cbK a b = 0 ∨ cbK a b = 1 := compareBytes_range _ _
theorem cbK_anti (a b : ByteArray) : cbK b a = -cbK a b := kb_anti _ _
theorem cbK_zero {a b : ByteArray} (h : cbK a b = 0) : a = b := ba_eq (by rw [Lib.toList_data, Lib.toList_data]; exact kb_zero h)
theorem cbK_self (a : ByteArray) : cbK a a = 0 := kb_self _
theorem eqK_iff (a b : ByteArray) : eqK a b = true ↔ a = b := by
  unfold eqK
  rw [beq_iff_eq]
  exact ⟨ba_eq, fun h => by rw [h]⟩
theorem ltK_trans {a b c : ByteArray} (h : ltK a b = true) (k : ltK b c = true) : ltK a c = true := by
  rw [ltK_iff] at *
  exact kb_trans h k
theorem ltK_irr (a : ByteArray) : ltK a a = false := by
  cases h : ltK a a with
  | false => rfl
  | true => rw [ltK_iff, cbK_self] at h; omega
theorem ltK_ne {a b : ByteArray} (h : ltK a b = true) : a ≠ b := fun e => by rw [e, ltK_irr] at h; cases h
theorem ltK_tri {a b : ByteArray} (h : ltK a b = false) (hne : a ≠ b) : ltK b a = true := by
  rw [ltK_iff, cbK_anti]
  rcases cbK_range a b with h1 | h1 | h1
  · rw [(ltK_iff a b).2 h1] at h; cases h
  · exact absurd (cbK_zero h1) hne
  · omega
/-- Insert, each once. -/
def insL (key : ByteArray) : List ByteArray → List ByteArray
  | [] => [key]
  | k :: L => if ltK k key then k :: insL key L else key :: (k :: L).filter (fun k => !eqK k key)
theorem fold_done (key : ByteArray) (L e : List ByteArray) : L.foldl (wStep key) (true, e) = (true, e ++ L.filter (fun k => !eqK k key)) := by
  induction L generalizing e with
  | nil => simp
  | cons k L ih =>
    rw [List.foldl_cons]
    have : wStep key (true, e) k = (true, if eqK k key then e else e ++ [k]) := by unfold wStep; simp
    rw [this, ih, List.filter_cons]
    cases hq : eqK k key <;> simp
def finW (key : ByteArray) (st : Bool × List ByteArray) : List ByteArray := if st.1 then st.2 else st.2 ++ [key]
theorem finW_t (key : ByteArray) (e : List ByteArray) : finW key (true, e) = e := rfl
theorem finW_f (key : ByteArray) (e : List ByteArray) : finW key (false, e) = e ++ [key] := rfl
theorem fold_undone (key : ByteArray) (L e : List ByteArray) : finW key (L.foldl (wStep key) (false, e)) = e ++ insL key L := by
  induction L generalizing e with
  | nil => rfl
  | cons k L ih =>
    rw [List.foldl_cons]
    cases hl : ltK k key with
    | true =>
      have hq : eqK k key = false := by
        cases hq : eqK k key with
        | false => rfl
        | true => exact absurd ((eqK_iff _ _).1 hq) (ltK_ne hl)
      have : wStep key (false, e) k = (false, e ++ [k]) := by unfold wStep; simp [hl, hq]
      rw [this, ih, insL, if_pos hl, List.append_assoc]
      rfl
    | false =>
      rw [insL, if_neg (by rw [hl]; simp)]
      cases hq : eqK k key with
      | false =>
        have : wStep key (false, e) k = (true, e ++ [key] ++ [k]) := by unfold wStep; simp [hl, hq]
        rw [this, fold_done, finW_t, List.filter_cons, hq]
        simp
      | true =>
        have : wStep key (false, e) k = (true, e ++ [key]) := by unfold wStep; simp [hl, hq]
        rw [this, fold_done, finW_t, List.filter_cons, hq]
        simp
theorem withL_eq (key : ByteArray) (L : List ByteArray) : withL key L = insL key L := by
  have := fold_undone key L []
  rw [List.nil_append] at this
  exact this
def SortedK (L : List ByteArray) : Prop := L.Pairwise (fun a b => ltK a b = true)
theorem insL_mem {key : ByteArray} {L : List ByteArray} {a : ByteArray} : a ∈ insL key L ↔ a = key ∨ a ∈ L := by
  induction L with
  | nil => simp [insL]
  | cons k L ih =>
    rw [insL]
    split
    · rw [List.mem_cons, ih, List.mem_cons]
      constructor
      · rintro (h | h | h)
        · exact .inr (.inl h)
        · exact .inl h
        · exact .inr (.inr h)
      · rintro (h | h | h)
        · exact .inr (.inl h)
        · exact .inl h
        · exact .inr (.inr h)
    · rw [List.mem_cons, List.mem_filter]
      constructor
      · rintro (h | ⟨h, _⟩)
        · exact .inl h
        · exact .inr h
      · rintro (h | h)
        · exact .inl h
        · by_cases hq : a = key
          · exact .inl hq
          · refine .inr ⟨h, ?_⟩
            cases he : eqK a key with
            | false => rfl
            | true => exact absurd ((eqK_iff _ _).1 he) hq
theorem insL_sorted {key : ByteArray} {L : List ByteArray} (h : SortedK L) : SortedK (insL key L) := by
  induction L with
  | nil => exact List.pairwise_singleton _ _
  | cons k L ih =>
    obtain ⟨h1, h2⟩ := List.pairwise_cons.1 h
    rw [insL]
    split
    · rename_i hl
      refine List.pairwise_cons.2 ⟨fun a ha => ?_, ih h2⟩
      rcases insL_mem.1 ha with rfl | ha
      · exact hl
      · exact h1 a ha
    · rename_i hl
      have hl' : ltK k key = false := by simpa using hl
      refine List.pairwise_cons.2 ⟨fun a ha => ?_, List.Pairwise.filter _ h⟩
      obtain ⟨ha, hne⟩ := List.mem_filter.1 ha
      have hne : a ≠ key := fun e => by rw [(eqK_iff _ _).2 e] at hne; cases hne
      rcases List.mem_cons.1 ha with rfl | ha
      · exact ltK_tri hl' hne
      · by_cases hk : k = key
        · rw [← hk]; exact h1 a ha
        · exact ltK_trans (ltK_tri hl' hk) (h1 a ha)
/-- A map with each of these keys. -/
def keysW (K : List ByteArray) : List ByteArray := K.foldl (fun L k => withL k L) []
theorem keysW_snoc (K : List ByteArray) (k : ByteArray) : keysW (K ++ [k]) = withL k (keysW K) := by unfold keysW; rw [List.foldl_append]; rfl
theorem keysW_ok (K : List ByteArray) : SortedK (keysW K) ∧ ∀ a, a ∈ keysW K ↔ a ∈ K := by
  have go : ∀ (K L : List ByteArray), SortedK L → SortedK (K.foldl (fun L k => withL k L) L) ∧ ∀ a, a ∈ K.foldl (fun L k => withL k L) L ↔ a ∈ K ∨ a ∈ L := by
    intro K
    induction K with
    | nil => intro L h; exact ⟨h, fun a => by simp⟩
    | cons k K ih =>
      intro L h
      rw [List.foldl_cons, withL_eq]
      obtain ⟨h1, h2⟩ := ih (insL k L) (insL_sorted h)
      refine ⟨h1, fun a => ?_⟩
      rw [h2, insL_mem, List.mem_cons]
      constructor
      · rintro (h | h | h)
        · exact .inl (.inr h)
        · exact .inl (.inl h)
        · exact .inr h
      · rintro ((h | h) | h)
        · exact .inr (.inl h)
        · exact .inl h
        · exact .inr (.inr h)
  obtain ⟨h1, h2⟩ := go K [] List.Pairwise.nil
  exact ⟨h1, fun a => (h2 a).trans (by simp)⟩
theorem sorted_unique {L M : List ByteArray} (hL : SortedK L) (hM : SortedK M) (h : ∀ a, a ∈ L ↔ a ∈ M) : L = M := by
  induction L generalizing M with
  | nil =>
    cases M with
    | nil => rfl
    | cons m M => exact absurd ((h m).2 List.mem_cons_self) (by simp)
  | cons l L ih =>
    cases M with
    | nil => exact absurd ((h l).1 List.mem_cons_self) (by simp)
    | cons m M =>
      obtain ⟨a1, a2⟩ := List.pairwise_cons.1 hL
      obtain ⟨b1, b2⟩ := List.pairwise_cons.1 hM
      have e : l = m := by
        rcases List.mem_cons.1 ((h l).1 List.mem_cons_self) with h1 | h1
        · exact h1
        · rcases List.mem_cons.1 ((h m).2 List.mem_cons_self) with h2 | h2
          · exact h2.symm
          · have := ltK_trans (a1 m h2) (b1 l h1)
            rw [ltK_irr] at this
            cases this
      subst e
      rw [ih a2 b2 (fun a => ?_)]
      constructor
      · intro ha
        rcases List.mem_cons.1 ((h a).1 (List.mem_cons_of_mem _ ha)) with h1 | h1
        · exact absurd h1.symm (ltK_ne (a1 a ha))
        · exact h1
      · intro ha
        rcases List.mem_cons.1 ((h a).2 (List.mem_cons_of_mem _ ha)) with h1 | h1
        · exact absurd h1.symm (ltK_ne (b1 a ha))
        · exact h1
theorem sorted_nodup {L : List ByteArray} (h : SortedK L) : L.Nodup := h.imp fun h => ltK_ne h
end Go.Proofs.YtcpmehppfccihaaGreatDoor
