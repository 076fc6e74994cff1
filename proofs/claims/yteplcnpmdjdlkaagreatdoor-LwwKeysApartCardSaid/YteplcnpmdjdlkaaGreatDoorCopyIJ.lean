/-
  What stands between two rounds of value.Copy's loops, in plain Lean. No condition.
-/
import Derived.Test.YteplcnpmdjdlkaaGreatDoorCopySJ
namespace Go.Proofs.YteplcnpmdjdlkaaGreatDoor
open Go.RowKit
set_option linter.unusedVariables false
set_option linter.unusedSimpArgs false
set_option linter.unusedSectionVars false
theorem splice_len (cur l : List Value) (p : Nat) (h : p + l.length ≤ cur.length) : (cur.take p ++ l ++ cur.drop (p + l.length)).length = cur.length := by
  simp only [List.length_append, List.length_take, List.length_drop]
  omega
theorem splice_get (cur l : List Value) (p q : Nat) (h : p + l.length ≤ cur.length) : (cur.take p ++ l ++ cur.drop (p + l.length))[q]? = if q < p then cur[q]? else if q < p + l.length then l[q - p]? else cur[q]? := by
  have hp : (cur.take p).length = p := by rw [List.length_take]; omega
  by_cases h1 : q < p
  · rw [if_pos h1, List.append_assoc, List.getElem?_append_left (by rw [hp]; exact h1), List.getElem?_take_of_lt h1]
  · rw [if_neg h1]
    by_cases h2 : q < p + l.length
    · rw [if_pos h2, List.getElem?_append_left (by rw [List.length_append, hp]; exact h2), List.getElem?_append_right (by rw [hp]; omega), hp]
    · rw [if_neg h2, List.getElem?_append_right (by rw [List.length_append, hp]; omega), List.length_append, hp, List.getElem?_drop]
      congr 1
      omega
def updT (F : Nat → VT) (i : Nat) (y : VT) : Nat → VT := fun k => if k = i then y else F k
theorem updT_same (F : Nat → VT) (i : Nat) (y : VT) : updT F i y i = y := if_pos rfl
theorem updT_ne (F : Nat → VT) {i k : Nat} (y : VT) (h : k ≠ i) : updT F i y k = F k := if_neg h
def pcK (key : ByteArray) (x : VT) : Array Value := #[.string key, .int .i64 x.k, .int .i64 x.n, .string x.s, x.L, x.M]
def boxC (t : VT) (A1 A2 : Option Addr) (c1 c2 : Nat) : Array Value := #[.int .i64 t.k, .int .i64 t.n, .string t.s, .slice A1 t.ln c1, .slice A2 t.mn c2]
structure CopF (w : World) (t : VT) (B : Nat) (A1 A2 : Option Addr) (g1 g2 c1 c2 : Nat) : Prop where
  l : 0 < t.ln → A1 = some ⟨g1, 0, none⟩ ∧ w.heap.size + 2 ≤ g1 ∧ g1 < B ∧ t.ln ≤ c1
  m : 0 < t.mn → A2 = some ⟨g2, 0, none⟩ ∧ w.heap.size + 2 ≤ g2 ∧ g2 < B ∧ t.mn ≤ c2
  lm : 0 < t.ln → 0 < t.mn → g1 ≠ g2
  b : w.heap.size + 2 ≤ B
structure CopI (w : World) (t : VT) (B : Nat) (A1 A2 : Option Addr) (g1 g2 c1 c2 : Nat) (F G : Nat → VT) (i j : Nat) (W : World) : Prop where
  below : Below w.heap.size w W
  box : W.heap[w.heap.size]? = some (.cells (boxC t A1 A2 c1 c2) 34 (0, 0))
  res : W.heap[w.heap.size + 1]? = some (.cells VT.no.c 34 (0, 0))
  hB : B ≤ W.heap.size
  rowL : 0 < t.ln → ∃ cur, W.heap[g1]? = some (.cells cur 34 (0, 0)) ∧ cur.size = c1 * 5 ∧ ∀ k, k < t.ln → ∀ (q : Nat) u, (if k < i then F k else t.lt k).c[q]? = some u → cur[k * 5 + q]? = some u
  rowM : 0 < t.mn → ∃ cur, W.heap[g2]? = some (.cells cur 79 (0, 0)) ∧ cur.size = c2 * 6 ∧ ∀ k, k < t.mn → ∀ (q : Nat) u, (pcK (t.key k) (if k < j then G k else t.mt k))[q]? = some u → cur[k * 6 + q]? = some u
  cL : ∀ k, k < i → Cop B (t.lt k) (F k) W
  cM : ∀ k, k < j → Cop B (t.mt k) (G k) W
  pL : ∀ k l, k < l → l < i → VT.Apart (F k) (F l)
  pM : ∀ k l, k < l → l < j → VT.Apart (G k) (G l)
  pX : ∀ k l, k < i → l < j → VT.Apart (F k) (G l)
theorem Cop.put {B g : Nat} {x y : VT} {W w' : World} (h : Cop B x y W) (hg : g < B) (ho : ∀ k, k ≠ g → w'.heap[k]? = W.heap[k]?) (hs : w'.heap.size = W.heap.size) : Cop B x y w' :=
  ⟨h.same, by rw [hs]; exact h.tin.but (h.at_.imp fun b hb => by omega) ho, h.at_, h.free.keep (h.at_.imp fun b hb => (by omega : b ≠ g)) (fun b hb => ho b hb)⟩
section
variable {w : World} {t : VT} {B : Nat} {A1 A2 : Option Addr} {g1 g2 c1 c2 : Nat} {F G : Nat → VT} {i j : Nat} {wr W w' : World}
theorem CopI.nextL (hF : CopF w t B A1 A2 g1 g2 c1 c2) (h : CopI w t B A1 A2 g1 g2 c1 c2 F G i j wr) (hi : i < t.ln) {y : VT} {cur : Array Value} (hr : wr.heap[g1]? = some (.cells cur 34 (0, 0)))
    (hb : Below wr.heap.size wr W) (hy : Cop wr.heap.size (t.lt i) y W) (hn : w'.heap[g1]? = some (.cells (cur.toList.take (i * 5) ++ y.c.toList ++ cur.toList.drop (i * 5 + y.c.size)).toArray 34 (0, 0))) (ho : ∀ k, k ≠ g1 → w'.heap[k]? = W.heap[k]?) (hb' : Below g1 W w') (hs : w'.heap.size = W.heap.size) :
    CopI w t B A1 A2 g1 g2 c1 c2 (updT F i y) G (i + 1) j w' := by
  obtain ⟨hA, hg, hgB, hc⟩ := hF.l (by omega)
  obtain ⟨cur', hr', hcs, hcu⟩ := h.rowL (by omega)
  rw [hr] at hr'
  obtain rfl : cur = cur' := by injection hr' with h1; injection h1
  have hB := h.hB
  have hsz := hb.size
  have hW : ∀ k, k < wr.heap.size → k ≠ g1 → w'.heap[k]? = wr.heap[k]? := fun k hk hk' => (ho k hk').trans (hb.block k hk)
  have hlen : i * 5 + y.c.toList.length ≤ cur.toList.length := by
    have : y.c.toList.length = 5 := rfl
    rw [this, Array.length_toList, hcs]
    omega
  refine ⟨h.below.trans ((hb.mono h.below.size).trans (hb'.mono (by omega))), (hW _ (by omega) (by omega)).trans h.box, (hW _ (by omega) (by omega)).trans h.res, by omega, fun _ => ⟨_, hn, ?_, ?_⟩, fun hm => ?_, fun k hk => ?_, fun k hk => ?_, fun k l hkl hl => ?_, h.pM, fun k l hk hl => ?_⟩
  · have := splice_len cur.toList y.c.toList (i * 5) hlen
    rw [← hcs]
    exact this
  · intro k hk q u hu
    have hq : q < 5 := (Array.getElem?_eq_some_iff.1 hu).1
    have := splice_get cur.toList y.c.toList (i * 5) (k * 5 + q) hlen
    have e5 : y.c.toList.length = 5 := rfl
    have hy5 : y.c.size = 5 := rfl
    rw [hy5, ← Array.getElem?_toList]
    rw [e5] at this
    refine this.trans ?_
    by_cases hki : k = i
    · subst hki
      rw [if_neg (by omega), if_pos (by omega), show k * 5 + q - k * 5 = q by omega]
      rw [if_pos (by omega), updT_same] at hu
      rw [Array.getElem?_toList]; exact hu
    · have h1 : cur.toList[k * 5 + q]? = some u := by
        rw [Array.getElem?_toList]
        refine hcu k hk q u ?_
        rw [updT_ne _ _ hki] at hu
        by_cases hlt : k < i
        · rw [if_pos (by omega)] at hu; rw [if_pos hlt]; exact hu
        · rw [if_neg (by omega)] at hu; rw [if_neg hlt]; exact hu
      by_cases hlt : k < i
      · rw [if_pos (by omega)]; exact h1
      · rw [if_neg (by omega), if_neg (by omega)]; exact h1
  · obtain ⟨cm, hr2, hcm, hcu2⟩ := h.rowM hm
    have := hF.lm (by omega) hm
    have := (hF.m hm).2.2.1
    exact ⟨cm, (hW _ (by omega) (by omega)).trans hr2, hcm, hcu2⟩
  · by_cases hki : k = i
    · subst hki
      rw [updT_same]
      exact (hy.low hB).put hgB ho hs
    · rw [updT_ne _ _ hki]
      exact ((h.cL k (by omega)).step hb).put hgB ho hs
  · exact ((h.cM k hk).step hb).put hgB ho hs
  · by_cases hli : l = i
    · subst hli
      rw [updT_same, updT_ne _ _ (by omega)]
      exact VT.apart_at (h.cL k hkl).tin.at_ hy.at_
    · rw [updT_ne _ _ hli, updT_ne _ _ (by omega)]
      exact h.pL k l hkl (by omega)
  · by_cases hki : k = i
    · subst hki
      rw [updT_same]
      exact (VT.apart_at (h.cM l hl).tin.at_ hy.at_).symm
    · rw [updT_ne _ _ hki]
      exact h.pX k l (by omega) hl
theorem CopI.nextM (hF : CopF w t B A1 A2 g1 g2 c1 c2) (h : CopI w t B A1 A2 g1 g2 c1 c2 F G i j wr) (hj : j < t.mn) {y : VT} {cur : Array Value} (hr : wr.heap[g2]? = some (.cells cur 79 (0, 0)))
    (hb : Below wr.heap.size wr W) (hy : Cop wr.heap.size (t.mt j) y W) (hn : w'.heap[g2]? = some (.cells (cur.toList.take (j * 6 + 1) ++ y.c.toList ++ cur.toList.drop (j * 6 + 1 + y.c.size)).toArray 79 (0, 0))) (ho : ∀ k, k ≠ g2 → w'.heap[k]? = W.heap[k]?) (hb' : Below g2 W w') (hs : w'.heap.size = W.heap.size) :
    CopI w t B A1 A2 g1 g2 c1 c2 F (updT G j y) i (j + 1) w' := by
  obtain ⟨hA, hg, hgB, hc⟩ := hF.m (by omega)
  obtain ⟨cur', hr', hcs, hcu⟩ := h.rowM (by omega)
  rw [hr] at hr'
  obtain rfl : cur = cur' := by injection hr' with h1; injection h1
  have hB := h.hB
  have hsz := hb.size
  have hW : ∀ k, k < wr.heap.size → k ≠ g2 → w'.heap[k]? = wr.heap[k]? := fun k hk hk' => (ho k hk').trans (hb.block k hk)
  have hlen : j * 6 + 1 + y.c.toList.length ≤ cur.toList.length := by
    have : y.c.toList.length = 5 := rfl
    rw [this, Array.length_toList, hcs]
    omega
  refine ⟨h.below.trans ((hb.mono h.below.size).trans (hb'.mono (by omega))), (hW _ (by omega) (by omega)).trans h.box, (hW _ (by omega) (by omega)).trans h.res, by omega, fun hl => ?_, fun _ => ⟨_, hn, ?_, ?_⟩, fun k hk => ?_, fun k hk => ?_, h.pL, fun k l hkl hl => ?_, fun k l hk hl => ?_⟩
  · obtain ⟨cm, hr2, hcm, hcu2⟩ := h.rowL hl
    have := hF.lm hl (by omega)
    have := (hF.l hl).2.2.1
    exact ⟨cm, (hW _ (by omega) (by omega)).trans hr2, hcm, hcu2⟩
  · have := splice_len cur.toList y.c.toList (j * 6 + 1) hlen
    rw [← hcs]
    exact this
  · intro k hk q u hu
    have hq : q < 6 := (Array.getElem?_eq_some_iff.1 hu).1
    have := splice_get cur.toList y.c.toList (j * 6 + 1) (k * 6 + q) hlen
    have e5 : y.c.toList.length = 5 := rfl
    have hy5 : y.c.size = 5 := rfl
    rw [hy5, ← Array.getElem?_toList]
    rw [e5] at this
    refine this.trans ?_
    by_cases hki : k = j
    · subst hki
      rw [if_pos (by omega), updT_same] at hu
      by_cases hq0 : q = 0
      · subst hq0
        rw [if_pos (by omega)]
        rw [Array.getElem?_toList]
        refine hcu k hk 0 u ?_
        exact hu
      · obtain ⟨q', rfl⟩ : ∃ q', q = q' + 1 := ⟨q - 1, by omega⟩
        rw [if_neg (by omega), if_pos (by omega), show k * 6 + (q' + 1) - (k * 6 + 1) = q' by omega, ← hu]
        simp [pcK, VT.c]
    · have h1 : cur.toList[k * 6 + q]? = some u := by
        rw [Array.getElem?_toList]
        refine hcu k hk q u ?_
        rw [updT_ne _ _ hki] at hu
        by_cases hlt : k < j
        · rw [if_pos (by omega)] at hu; rw [if_pos hlt]; exact hu
        · rw [if_neg (by omega)] at hu; rw [if_neg hlt]; exact hu
      by_cases hlt : k < j
      · rw [if_pos (by omega)]; exact h1
      · rw [if_neg (by omega), if_neg (by omega)]; exact h1
  · exact ((h.cL k hk).step hb).put hgB ho hs
  · by_cases hki : k = j
    · subst hki
      rw [updT_same]
      exact (hy.low hB).put hgB ho hs
    · rw [updT_ne _ _ hki]
      exact ((h.cM k (by omega)).step hb).put hgB ho hs
  · by_cases hlj : l = j
    · subst hlj
      rw [updT_same, updT_ne _ _ (by omega)]
      exact VT.apart_at (h.cM k hkl).tin.at_ hy.at_
    · rw [updT_ne _ _ hlj, updT_ne _ _ (by omega)]
      exact h.pM k l hkl (by omega)
  · by_cases hlj : l = j
    · subst hlj
      rw [updT_same]
      exact VT.apart_at (h.cL k hk).tin.at_ hy.at_
    · rw [updT_ne _ _ hlj]
      exact h.pX k l hk (by omega)
def outT (t : VT) (A1 A2 : Option Addr) (g1 g2 c1 c2 : Nat) (F G : Nat → VT) : VT := .mk t.k t.n t.s A1 g1 0 t.ln c1 F A2 g2 0 t.mn c2 t.key G
theorem CopI.end_ (hF : CopF w t B A1 A2 g1 g2 c1 c2) (ht : VT.Here w.heap.size w t) (h : CopI w t B A1 A2 g1 g2 c1 c2 F G t.ln t.mn W) (ho : ∀ k, k ≠ w.heap.size + 1 → w'.heap[k]? = W.heap[k]?) (hs : w'.heap.size = W.heap.size) :
    Cop w.heap.size t (outT t A1 A2 g1 g2 c1 c2 F G) w' := by
  have hb := hF.b
  have hat : VT.At (fun b => w.heap.size + 2 ≤ b) (outT t A1 A2 g1 g2 c1 c2 F G) := .mk (fun hn => (hF.l hn).2.1) (fun hn => (hF.m hn).2.1) (fun k hk => (h.cL k hk).at_.imp fun b hb' => by omega) (fun k hk => (h.cM k hk).at_.imp fun b hb' => by omega)
  have hfr : VT.Free W (outT t A1 A2 g1 g2 c1 c2 F G) := by
    refine .mk (fun hn => ?_) (fun hn => ?_) hF.lm (fun k hk => (h.cL k hk).free) (fun k hk => (h.cM k hk).free) h.pL h.pM h.pX (fun k hk => (h.cL k hk).at_.imp fun b hb' => ⟨fun hn => ?_, fun hn => ?_⟩) (fun k hk => (h.cM k hk).at_.imp fun b hb' => ⟨fun hn => ?_, fun hn => ?_⟩)
    · obtain ⟨cur, hr, _⟩ := h.rowL hn
      exact ⟨cur, hr⟩
    · obtain ⟨cur, hr, _⟩ := h.rowM hn
      exact ⟨cur, hr⟩
    · have := (hF.l hn).2.2.1; show b ≠ g1; omega
    · have := (hF.m hn).2.2.1; show b ≠ g2; omega
    · have := (hF.l hn).2.2.1; show b ≠ g1; omega
    · have := (hF.m hn).2.2.1; show b ≠ g2; omega
  refine ⟨?_, ?_, hat.imp fun b hb => by omega, hfr.keep (hat.imp fun b hb => (by omega : b ≠ w.heap.size + 1)) (fun b hb => ho b hb)⟩
  · rw [sameV_iff]
    exact ⟨rfl, rfl, rfl, rfl, rfl, fun k hk => (h.cL k hk).same, fun k hk => ⟨rfl, (h.cM k hk).same⟩⟩
  · rw [hs]
    refine VT.In.but (w := W) ?_ (hat.imp fun b hb => by omega) ho
    refine .mk ⟨ht.n0, ht.n1, ht.k0, ht.k1, ht.sl, ht.ll, ht.ml, fun hn => ⟨(hF.l hn).1, ?_⟩, fun hn => ⟨(hF.m hn).1, ?_⟩, ?_, ?_, ht.kl⟩ (fun k hk => (h.cL k hk).tin) (fun k hk => (h.cM k hk).tin)
    · exact Nat.lt_of_lt_of_le (hF.l hn).2.2.1 h.hB
    · exact Nat.lt_of_lt_of_le (hF.m hn).2.2.1 h.hB
    · intro k hk q u hu
      have hk' : k < t.ln := hk
      obtain ⟨cur, hr, _, hcu⟩ := h.rowL (by omega)
      refine (cell_of_row _ _ _ _ _ _ hr).trans ?_
      have := hcu k hk' q u (by rw [if_pos hk']; exact hu)
      show cur[0 + k * 5 + q]? = some u
      rw [show (0 : Nat) + k * 5 + q = k * 5 + q by omega]
      exact this
    · intro k hk q u hu
      have hk' : k < t.mn := hk
      obtain ⟨cur, hr, _, hcu⟩ := h.rowM (by omega)
      refine (cell_of_row _ _ _ _ _ _ hr).trans ?_
      have := hcu k hk' q u (by rw [if_pos hk']; exact hu)
      show cur[0 + k * 6 + q]? = some u
      rw [show (0 : Nat) + k * 6 + q = k * 6 + q by omega]
      exact this
end
end Go.Proofs.YteplcnpmdjdlkaaGreatDoor
