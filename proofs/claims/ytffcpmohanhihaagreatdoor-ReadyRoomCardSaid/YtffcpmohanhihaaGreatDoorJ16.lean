/-
  What stands between two rounds of value.Copy's loops, in plain Lean. No condition.
  value.Copy tells a tree alike, all of it in blocks of its own. No condition.
-/
import Derived.Test.YtffcpmohanhihaaGreatDoorJ15
import Derived.Test.YtffcpmohanhihaaGreatDoorJ6
namespace Go.Proofs.YtffcpmohanhihaaGreatDoor
open Go.RowKit
set_option linter.unusedVariables false
set_option linter.unusedSimpArgs false
set_option linter.unusedSectionVars false
theorem splice_len (cur l : List Value) (p : Nat) (h : p + l.length ≤ cur.length) : (cur.take p ++ l ++ cur.drop (p + l.length)).length = cur.length := by
  simp only [List.length_append, List.length_take, List.length_drop]
  omega
theorem splice_get (cur l : List Value) (p q : Nat) (h : p + l.length ≤ cur.length) : (cur.take p ++ l ++ cur.drop (p + l.length))[q]? = if q < p then cur[q]? else if q < p + l.length then l[q - p]? else cur[q]? := by
  have hp : (cur.take p).length = p := by rw [List.length_take]; omega
  by_cases h1 : q < p
  · rw [if_pos h1, List.append_assoc, List.getElem?_append_left (by rw [hp]; exact h1), List.getElem?_take_of_lt h1]
  · rw [if_neg h1]
    by_cases h2 : q < p + l.length
    · rw [if_pos h2, List.getElem?_append_left (by rw [List.length_append, hp]; exact h2), List.getElem?_append_right (by rw [hp]; omega), hp]
    · rw [if_neg h2, List.getElem?_append_right (by rw [List.length_append, hp]; omega), List.length_append, hp, List.getElem?_drop]
      congr 1
      omega
def updT (F : Nat → VT) (i : Nat) (y : VT) : Nat → VT := fun k => if k = i then y else F k
theorem updT_same (F : Nat → VT) (i : Nat) (y : VT) : updT F i y i = y := if_pos rfl
theorem updT_ne (F : Nat → VT) {i k : Nat} (y : VT) (h : k ≠ i) : updT F i y k = F k := if_neg h
def pcK (key : ByteArray) (x : VT) : Array Value := #[.string key, .int .i64 x.k, .int .i64 x.n, .string x.s, x.L, x.M]
def boxC (t : VT) (A1 A2 : Option Addr) (c1 c2 : Nat) : Array Value := #[.int .i64 t.k, .int .i64 t.n, .string t.s, .slice A1 t.ln c1, .slice A2 t.mn c2]
structure CopF (w : World) (t : VT) (B : Nat) (A1 A2 : Option Addr) (g1 g2 c1 c2 : Nat) : Prop where
  l : 0 < t.ln → A1 = some ⟨g1, 0, none⟩ ∧ w.heap.size + 2 ≤ g1 ∧ g1 < B ∧ t.ln ≤ c1
  m : 0 < t.mn → A2 = some ⟨g2, 0, none⟩ ∧ w.heap.size + 2 ≤ g2 ∧ g2 < B ∧ t.mn ≤ c2
  lm : 0 < t.ln → 0 < t.mn → g1 ≠ g2
  b : w.heap.size + 2 ≤ B
structure CopI (w : World) (t : VT) (B : Nat) (A1 A2 : Option Addr) (g1 g2 c1 c2 : Nat) (F G : Nat → VT) (i j : Nat) (W : World) : Prop where
  below : Below w.heap.size w W
  box : W.heap[w.heap.size]? = some (.cells (boxC t A1 A2 c1 c2) 38 (0, 0))
  res : W.heap[w.heap.size + 1]? = some (.cells VT.no.c 38 (0, 0))
  hB : B ≤ W.heap.size
  rowL : 0 < t.ln → ∃ cur, W.heap[g1]? = some (.cells cur 38 (0, 0)) ∧ cur.size = c1 * 5 ∧ ∀ k, k < t.ln → ∀ (q : Nat) u, (if k < i then F k else t.lt k).c[q]? = some u → cur[k * 5 + q]? = some u
  rowM : 0 < t.mn → ∃ cur, W.heap[g2]? = some (.cells cur 82 (0, 0)) ∧ cur.size = c2 * 6 ∧ ∀ k, k < t.mn → ∀ (q : Nat) u, (pcK (t.key k) (if k < j then G k else t.mt k))[q]? = some u → cur[k * 6 + q]? = some u
  cL : ∀ k, k < i → Cop B (t.lt k) (F k) W
  cM : ∀ k, k < j → Cop B (t.mt k) (G k) W
  pL : ∀ k l, k < l → l < i → VT.Apart (F k) (F l)
  pM : ∀ k l, k < l → l < j → VT.Apart (G k) (G l)
  pX : ∀ k l, k < i → l < j → VT.Apart (F k) (G l)
theorem Cop.put {B g : Nat} {x y : VT} {W w' : World} (h : Cop B x y W) (hg : g < B) (ho : ∀ k, k ≠ g → w'.heap[k]? = W.heap[k]?) (hs : w'.heap.size = W.heap.size) : Cop B x y w' :=
  ⟨h.same, by rw [hs]; exact h.tin.but (h.at_.imp fun b hb => by omega) ho, h.at_, h.free.keep (h.at_.imp fun b hb => (by omega : b ≠ g)) (fun b hb => ho b hb)⟩
section
variable {w : World} {t : VT} {B : Nat} {A1 A2 : Option Addr} {g1 g2 c1 c2 : Nat} {F G : Nat → VT} {i j : Nat} {wr W w' : World}
theorem CopI.nextL (hF : CopF w t B A1 A2 g1 g2 c1 c2) (h : CopI w t B A1 A2 g1 g2 c1 c2 F G i j wr) (hi : i < t.ln) {y : VT} {cur : Array Value} (hr : wr.heap[g1]? = some (.cells cur 38 (0, 0)))
    (hb : Below wr.heap.size wr W) (hy : Cop wr.heap.size (t.lt i) y W) (hn : w'.heap[g1]? = some (.cells (cur.toList.take (i * 5) ++ y.c.toList ++ cur.toList.drop (i * 5 + y.c.size)).toArray 38 (0, 0))) (ho : ∀ k, k ≠ g1 → w'.heap[k]? = W.heap[k]?) (hb' : Below g1 W w') (hs : w'.heap.size = W.heap.size) :
    CopI w t B A1 A2 g1 g2 c1 c2 (updT F i y) G (i + 1) j w' := by
  obtain ⟨hA, hg, hgB, hc⟩ := hF.l (by omega)
  obtain ⟨cur', hr', hcs, hcu⟩ := h.rowL (by omega)
  rw [hr] at hr'
  obtain rfl : cur = cur' := by injection hr' with h1; injection h1
  have hB := h.hB
  have hsz := hb.size
  have hW : ∀ k, k < wr.heap.size → k ≠ g1 → w'.heap[k]? = wr.heap[k]? := fun k hk hk' => (ho k hk').trans (hb.block k hk)
  have hlen : i * 5 + y.c.toList.length ≤ cur.toList.length := by
    have : y.c.toList.length = 5 := rfl
    rw [this, Array.length_toList, hcs]
    omega
  refine ⟨h.below.trans ((hb.mono h.below.size).trans (hb'.mono (by omega))), (hW _ (by omega) (by omega)).trans h.box, (hW _ (by omega) (by omega)).trans h.res, by omega, fun _ => ⟨_, hn, ?_, ?_⟩, fun hm => ?_, fun k hk => ?_, fun k hk => ?_, fun k l hkl hl => ?_, h.pM, fun k l hk hl => ?_⟩
  · have := splice_len cur.toList y.c.toList (i * 5) hlen
    rw [← hcs]
    exact this
  · intro k hk q u hu
    have hq : q < 5 := (Array.getElem?_eq_some_iff.1 hu).1
    have := splice_get cur.toList y.c.toList (i * 5) (k * 5 + q) hlen
    have e5 : y.c.toList.length = 5 := rfl
    have hy5 : y.c.size = 5 := rfl
    rw [hy5, ← Array.getElem?_toList]
    rw [e5] at this
    refine this.trans ?_
    by_cases hki : k = i
    · subst hki
      rw [if_neg (by omega), if_pos (by omega), show k * 5 + q - k * 5 = q by omega]
      rw [if_pos (by omega), updT_same] at hu
      rw [Array.getElem?_toList]; exact hu
    · have h1 : cur.toList[k * 5 + q]? = some u := by
        rw [Array.getElem?_toList]
        refine hcu k hk q u ?_
        rw [updT_ne _ _ hki] at hu
        by_cases hlt : k < i
        · rw [if_pos (by omega)] at hu; rw [if_pos hlt]; exact hu
        · rw [if_neg (by omega)] at hu; rw [if_neg hlt]; exact hu
      by_cases hlt : k < i
      · rw [if_pos (by omega)]; exact h1
      · rw [if_neg (by omega), if_neg (by omega)]; exact h1
  · obtain ⟨cm, hr2, hcm, hcu2⟩ := h.rowM hm
    have := hF.lm (by omega) hm
    have := (hF.m hm).2.2.1
    exact ⟨cm, (hW _ (by omega) (by omega)).trans hr2, hcm, hcu2⟩
  · by_cases hki : k = i
    · subst hki
      rw [updT_same]
      exact (hy.low hB).put hgB ho hs
    · rw [updT_ne _ _ hki]
      exact ((h.cL k (by omega)).step hb).put hgB ho hs
  · exact ((h.cM k hk).step hb).put hgB ho hs
  · by_cases hli : l = i
    · subst hli
      rw [updT_same, updT_ne _ _ (by omega)]
      exact VT.apart_at (h.cL k hkl).tin.at_ hy.at_
    · rw [updT_ne _ _ hli, updT_ne _ _ (by omega)]
      exact h.pL k l hkl (by omega)
  · by_cases hki : k = i
    · subst hki
      rw [updT_same]
      exact (VT.apart_at (h.cM l hl).tin.at_ hy.at_).symm
    · rw [updT_ne _ _ hki]
      exact h.pX k l (by omega) hl
theorem CopI.nextM (hF : CopF w t B A1 A2 g1 g2 c1 c2) (h : CopI w t B A1 A2 g1 g2 c1 c2 F G i j wr) (hj : j < t.mn) {y : VT} {cur : Array Value} (hr : wr.heap[g2]? = some (.cells cur 82 (0, 0)))
    (hb : Below wr.heap.size wr W) (hy : Cop wr.heap.size (t.mt j) y W) (hn : w'.heap[g2]? = some (.cells (cur.toList.take (j * 6 + 1) ++ y.c.toList ++ cur.toList.drop (j * 6 + 1 + y.c.size)).toArray 82 (0, 0))) (ho : ∀ k, k ≠ g2 → w'.heap[k]? = W.heap[k]?) (hb' : Below g2 W w') (hs : w'.heap.size = W.heap.size) :
    CopI w t B A1 A2 g1 g2 c1 c2 F (updT G j y) i (j + 1) w' := by
  obtain ⟨hA, hg, hgB, hc⟩ := hF.m (by omega)
  obtain ⟨cur', hr', hcs, hcu⟩ := h.rowM (by omega)
  rw [hr] at hr'
  obtain rfl : cur = cur' := by injection hr' with h1; injection h1
  have hB := h.hB
  have hsz := hb.size
  have hW : ∀ k, k < wr.heap.size → k ≠ g2 → w'.heap[k]? = wr.heap[k]? := fun k hk hk' => (ho k hk').trans (hb.block k hk)
  have hlen : j * 6 + 1 + y.c.toList.length ≤ cur.toList.length := by
    have : y.c.toList.length = 5 := rfl
    rw [this, Array.length_toList, hcs]
    omega
  refine ⟨h.below.trans ((hb.mono h.below.size).trans (hb'.mono (by omega))), (hW _ (by omega) (by omega)).trans h.box, (hW _ (by omega) (by omega)).trans h.res, by omega, fun hl => ?_, fun _ => ⟨_, hn, ?_, ?_⟩, fun k hk => ?_, fun k hk => ?_, h.pL, fun k l hkl hl => ?_, fun k l hk hl => ?_⟩
  · obtain ⟨cm, hr2, hcm, hcu2⟩ := h.rowL hl
    have := hF.lm hl (by omega)
    have := (hF.l hl).2.2.1
    exact ⟨cm, (hW _ (by omega) (by omega)).trans hr2, hcm, hcu2⟩
  · have := splice_len cur.toList y.c.toList (j * 6 + 1) hlen
    rw [← hcs]
    exact this
  · intro k hk q u hu
    have hq : q < 6 := (Array.getElem?_eq_some_iff.1 hu).1
    have := splice_get cur.toList y.c.toList (j * 6 + 1) (k * 6 + q) hlen
    have e5 : y.c.toList.length = 5 := rfl
    have hy5 : y.c.size = 5 := rfl
    rw [hy5, ← Array.getElem?_toList]
    rw [e5] at this
    refine this.trans ?_
    by_cases hki : k = j
    · subst hki
      rw [if_pos (by omega), updT_same] at hu
      by_cases hq0 : q = 0
      · subst hq0
        rw [if_pos (by omega)]
        rw [Array.getElem?_toList]
        refine hcu k hk 0 u ?_
        exact hu
      · obtain ⟨q', rfl⟩ : ∃ q', q = q' + 1 := ⟨q - 1, by omega⟩
        rw [if_neg (by omega), if_pos (by omega), show k * 6 + (q' + 1) - (k * 6 + 1) = q' by omega, ← hu]
        simp [pcK, VT.c]
    · have h1 : cur.toList[k * 6 + q]? = some u := by
        rw [Array.getElem?_toList]
        refine hcu k hk q u ?_
        rw [updT_ne _ _ hki] at hu
        by_cases hlt : k < j
        · rw [if_pos (by omega)] at hu; rw [if_pos hlt]; exact hu
        · rw [if_neg (by omega)] at hu; rw [if_neg hlt]; exact hu
      by_cases hlt : k < j
      · rw [if_pos (by omega)]; exact h1
      · rw [if_neg (by omega), if_neg (by omega)]; exact h1
  · exact ((h.cL k hk).step hb).put hgB ho hs
  · by_cases hki : k = j
    · subst hki
      rw [updT_same]
      exact (hy.low hB).put hgB ho hs
    · rw [updT_ne _ _ hki]
      exact ((h.cM k (by omega)).step hb).put hgB ho hs
  · by_cases hlj : l = j
    · subst hlj
      rw [updT_same, updT_ne _ _ (by omega)]
      exact VT.apart_at (h.cM k hkl).tin.at_ hy.at_
    · rw [updT_ne _ _ hlj, updT_ne _ _ (by omega)]
      exact h.pM k l hkl (by omega)
  · by_cases hlj : l = j
    · subst hlj
      rw [updT_same]
      exact VT.apart_at (h.cL k hk).tin.at_ hy.at_
    · rw [updT_ne _ _ hlj]
      exact h.pX k l hk (by omega)
def outT (t : VT) (A1 A2 : Option Addr) (g1 g2 c1 c2 : Nat) (F G : Nat → VT) : VT := .mk t.k t.n t.s A1 g1 0 t.ln c1 F A2 g2 0 t.mn c2 t.key G
theorem CopI.end_ (hF : CopF w t B A1 A2 g1 g2 c1 c2) (ht : VT.Here w.heap.size w t) (h : CopI w t B A1 A2 g1 g2 c1 c2 F G t.ln t.mn W) (ho : ∀ k, k ≠ w.heap.size + 1 → w'.heap[k]? = W.heap[k]?) (hs : w'.heap.size = W.heap.size) :
    Cop w.heap.size t (outT t A1 A2 g1 g2 c1 c2 F G) w' := by
  have hb := hF.b
  have hat : VT.At (fun b => w.heap.size + 2 ≤ b) (outT t A1 A2 g1 g2 c1 c2 F G) := .mk (fun hn => (hF.l hn).2.1) (fun hn => (hF.m hn).2.1) (fun k hk => (h.cL k hk).at_.imp fun b hb' => by omega) (fun k hk => (h.cM k hk).at_.imp fun b hb' => by omega)
  have hfr : VT.Free W (outT t A1 A2 g1 g2 c1 c2 F G) := by
    refine .mk (fun hn => ?_) (fun hn => ?_) hF.lm (fun k hk => (h.cL k hk).free) (fun k hk => (h.cM k hk).free) h.pL h.pM h.pX (fun k hk => (h.cL k hk).at_.imp fun b hb' => ⟨fun hn => ?_, fun hn => ?_⟩) (fun k hk => (h.cM k hk).at_.imp fun b hb' => ⟨fun hn => ?_, fun hn => ?_⟩)
    · obtain ⟨cur, hr, _⟩ := h.rowL hn
      exact ⟨cur, hr⟩
    · obtain ⟨cur, hr, _⟩ := h.rowM hn
      exact ⟨cur, hr⟩
    · have := (hF.l hn).2.2.1; show b ≠ g1; omega
    · have := (hF.m hn).2.2.1; show b ≠ g2; omega
    · have := (hF.l hn).2.2.1; show b ≠ g1; omega
    · have := (hF.m hn).2.2.1; show b ≠ g2; omega
  refine ⟨?_, ?_, hat.imp fun b hb => by omega, hfr.keep (hat.imp fun b hb => (by omega : b ≠ w.heap.size + 1)) (fun b hb => ho b hb)⟩
  · rw [sameV_iff]
    exact ⟨rfl, rfl, rfl, rfl, rfl, fun k hk => (h.cL k hk).same, fun k hk => ⟨rfl, (h.cM k hk).same⟩⟩
  · rw [hs]
    refine VT.In.but (w := W) ?_ (hat.imp fun b hb => by omega) ho
    refine .mk ⟨ht.n0, ht.n1, ht.k0, ht.k1, ht.sl, ht.ll, ht.ml, fun hn => ⟨(hF.l hn).1, ?_⟩, fun hn => ⟨(hF.m hn).1, ?_⟩, ?_, ?_, ht.kl⟩ (fun k hk => (h.cL k hk).tin) (fun k hk => (h.cM k hk).tin)
    · exact Nat.lt_of_lt_of_le (hF.l hn).2.2.1 h.hB
    · exact Nat.lt_of_lt_of_le (hF.m hn).2.2.1 h.hB
    · intro k hk q u hu
      have hk' : k < t.ln := hk
      obtain ⟨cur, hr, _, hcu⟩ := h.rowL (by omega)
      refine (cell_of_row _ _ _ _ _ _ hr).trans ?_
      have := hcu k hk' q u (by rw [if_pos hk']; exact hu)
      show cur[0 + k * 5 + q]? = some u
      rw [show (0 : Nat) + k * 5 + q = k * 5 + q by omega]
      exact this
    · intro k hk q u hu
      have hk' : k < t.mn := hk
      obtain ⟨cur, hr, _, hcu⟩ := h.rowM (by omega)
      refine (cell_of_row _ _ _ _ _ _ hr).trans ?_
      have := hcu k hk' q u (by rw [if_pos hk']; exact hu)
      show cur[0 + k * 6 + q]? = some u
      rw [show (0 : Nat) + k * 6 + q = k * 6 + q by omega]
      exact this
end
end Go.Proofs.YtffcpmohanhihaaGreatDoor
namespace Go.Proofs.YtffcpmohanhihaaGreatDoor
open Go.RowKit
set_option linter.unusedVariables false
set_option linter.unusedSimpArgs false
set_option linter.unusedSectionVars false
theorem boxC_one (t : VT) (A1 A2 : Option Addr) (c1 c2 : Nat) : (boxC t A1 A2 c1 c2).all (·.oneCell') = true := by simp [boxC, Value.oneCell']
def CopyOk (t : VT) : Prop := ∀ (w : World), VT.In w.heap.size w t → VT.Sm t → Calls Tryz.prog 56 #[.agg t.c] w fun e w' => ∃ y : VT, e = .returned (.agg y.c) ∧ Cop w.heap.size t y w' ∧ Below w.heap.size w w'
set_option maxRecDepth 100000 in
set_option maxHeartbeats 4000000 in
theorem vcopy_go (t : VT) (w : World) (ht : VT.In w.heap.size w t) (hs : VT.Sm t) (ihl : ∀ i, i < t.ln → CopyOk (t.lt i)) (ihm : ∀ i, i < t.mn → CopyOk (t.mt i)) : Calls Tryz.prog 56 #[.agg t.c] w fun e w' => ∃ y : VT, e = .returned (.agg y.c) ∧ Cop w.heap.size t y w' ∧ Below w.heap.size w w' := by
  have IL := Lib.hid ihl
  have IM := Lib.hid ihm
  have SM := Lib.hid hs
  clear ihl ihm hs
  have HA := ht.here
  have hll := HA.ll
  have hml := HA.ml
  have HT := Lib.hid ht
  clear ht
  have hS : Boxes w (w.alloc (Obj.cells t.c 38)) [(w.heap.size, Obj.cells t.c 38)] := (Boxes.start w).alloc (Obj.cells t.c 38)
  have hW0 : (w.alloc (Obj.cells t.c 38)).heap.size = w.heap.size + 1 := Array.size_push ..
  go_enter Tryz.func56, Tryz.ntmps56
  go_wp2_with (first | go_skip | ((with_reducible refine gate_op (op := .alloc 38) rfl ?_); generalize (w.alloc (Obj.cells t.c 38)) = W0 at *; refine alloc_arm rfl 38 rfl (val_alloc _) ?_; intro wn hbn hgn; have hS1 := hS.new hbn hgn; clear hS hbn hgn; have hS := hS1; clear hS1))
  rename World => w1
  rw [hW0] at hS ⊢
  have hS : Boxes w w1 [(w.heap.size, Obj.cells t.c 38), (w.heap.size + 1, Obj.cells VT.no.c 38)] := hS
  refine regCopy1 (by kernel_rfl) (b0 := w.heap.size) (s3 := .slice t.lA t.ln t.lc) (s4 := .slice t.mA t.mn t.mc) (box := t.c) (RV := Cl 38 5 w1.heap.size t.ln (fun i => (t.lt i).c)) (RP := Cl 82 6 w1.heap.size t.mn (fun i => t.pc i)) (of_decide_eq_true (by kernel_rfl)) rfl (hS.at_ 0 rfl) rfl rfl ?_ ?_ (fun v W W' h hb => h.step hb) (fun v W W' h hb => h.step hb) ?_
  · intro W hb
    exact (cloneV_any ((HT.out.move (hS.step hb).below).up (hS.step hb).below.size) SM.out.l0).mono fun e w' ⟨v, he, hv, hb'⟩ => ⟨v, he, hv.low hb.size, hb'⟩
  · intro W hb
    exact (cloneP_any ((HT.out.move (hS.step hb).below).up (hS.step hb).below.size) SM.out.m0).mono fun e w' ⟨v, he, hv, hb'⟩ => ⟨v, he, hv.low hb.size, hb'⟩
  intro θ wX hV hP e6 hX
  simp only [seqTo, dstOf, Act.put, List.getElem?_toArray, List.getElem?_cons_zero, List.getElem?_cons_succ, Option.bind_some, List.setIfInBounds_toArray, List.set_cons_zero, List.set_cons_succ, List.drop_succ_cons, List.drop_zero]
  have hS1 := hS.step hX
  have hw1 := hS.lt 1 rfl
  clear hS
  obtain ⟨A1, g1, c1, cu1, e2, f1⟩ := hV
  obtain ⟨A2, g2, c2, cu2, e5, f2⟩ := hP
  rw [e2, e5, e6]
  have F1 := Lib.hid f1
  have F2 := Lib.hid f2
  clear e2 e5 e6 f1 f2 hW0
  have hO : Hid (∀ k, k ≠ w.heap.size → wX.heap[k]? = wX.heap[k]?) := fun k hk => rfl
  have hZ : Hid (wX.heap.size = wX.heap.size) := rfl
  refine store_elem rfl 35 (.tmp 11) _ rfl _ 3 (.slice A1 t.ln c1) rfl rfl rfl 38 _ _ (hS1.at_ 0 rfl) rfl (by kernel_rfl) ?_; intro wn hgn hon hbn hsn; have hS2 := hS1.put 0 rfl hon hbn hgn; have hO1 := Lib.hid (fun k hk => (hon k hk).trans (hO.out k hk)); have hZ1 := Lib.hid (hsn.trans hZ.out); clear hS1 hgn hon hbn hsn hO hZ; have hS1 := hS2; have hO := hO1; have hZ := hZ1; clear hS2 hO1 hZ1
  go_wp2_with (first | go_skip | ((with_reducible refine gate_op (op := .store 36 (.tmp 12) (.tmp 10)) rfl ?_); refine store_elem rfl 36 (.tmp 12) _ rfl _ 4 (.slice A2 t.mn c2) rfl rfl rfl 38 _ _ (hS1.at_ 0 rfl) rfl (by kernel_rfl) ?_; intro wn hgn hon hbn hsn; have hS2 := hS1.put 0 rfl hon hbn hgn; have hO1 := Lib.hid (fun k hk => (hon k hk).trans (hO.out k hk)); have hZ1 := Lib.hid (hsn.trans hZ.out); clear hS1 hgn hon hbn hsn hO hZ; have hS1 := hS2; have hO := hO1; have hZ := hZ1; clear hS2 hO1 hZ1; have c3 := (cell_of_row _ _ 3 _ _ _ (hS1.at_ 0 rfl)).trans (show _ = some (.slice A1 t.ln c1) from rfl)))
  have hF : CopF w t wX.heap.size A1 A2 g1 g2 c1 c2 := by
    refine ⟨fun hn => ?_, fun hn => ?_, fun hn hm hg => ?_, Nat.le_trans (by omega) hX.size⟩
    · obtain ⟨k1, k2, k3, _, k5, _⟩ := F1.out hn
      exact ⟨k1, by omega, (Array.getElem?_eq_some_iff.1 k3).1, k5⟩
    · obtain ⟨k1, k2, k3, _, k5, _⟩ := F2.out hn
      exact ⟨k1, by omega, (Array.getElem?_eq_some_iff.1 k3).1, k5⟩
    · have k1 := (F1.out hn).2.2.1
      have k2 := (F2.out hm).2.2.1
      rw [hg, k2] at k1
      injection k1 with k1
      injection k1 with _ k1
      exact absurd k1 (by decide)
  rename World => w3
  have hI : CopI w t wX.heap.size A1 A2 g1 g2 c1 c2 (fun _ => .no) (fun _ => .no) 0 0 w3 := by
    refine ⟨hS1.below, hS1.at_ 0 rfl, hS1.at_ 1 rfl, Nat.le_of_eq hZ.out.symm, fun hn => ?_, fun hn => ?_, fun k hk => absurd hk (Nat.not_lt_zero k), fun k hk => absurd hk (Nat.not_lt_zero k), fun k l _ hl => absurd hl (Nat.not_lt_zero l), fun k l _ hl => absurd hl (Nat.not_lt_zero l), fun k l hk _ => absurd hk (Nat.not_lt_zero k)⟩
    · obtain ⟨k1, k2, k3, k4, k5, k6⟩ := F1.out hn
      exact ⟨cu1, (hO.out g1 (by omega)).trans k3, k4, fun k hk q u hu => k6 k hk q u hu⟩
    · obtain ⟨k1, k2, k3, k4, k5, k6⟩ := F2.out hn
      exact ⟨cu2, (hO.out g2 (by omega)).trans k3, k4, fun k hk q u hu => k6 k hk q u hu⟩
  generalize wX.heap.size = B at *
  have HF := Lib.hid hF
  clear F1 F2 hS1 hO hZ hX hF c3
  go_loopw [3, 16] (fun x iv wr => ∃ (i : Nat) (F : Nat → VT), i ≤ t.ln ∧ iv = .int .i64 (i : Int) ∧ CopI w t B A1 A2 g1 g2 c1 c2 F (fun _ => .no) i 0 wr) (fun _ iv _ => t.ln - (intOf iv).toNat)
  case atStart => exact ⟨0, _, Nat.zero_le _, rfl, hI⟩
  case round =>
    clear hI
    rename_i wr
    obtain ⟨i, F, hi, rfl, hI⟩ := hrel
    have HI := Lib.hid hI
    by_cases hlt : i < t.ln
    · have hltb : decide ((i : Int) < t.ln) = true := by simp; omega
      obtain ⟨cur, hrow, hcs, hcu⟩ := hI.rowL (by omega)
      have hbox := hI.box
      have hbl := hI.below
      have HC := Lib.hid (And.intro hcs hcu)
      clear hI hcs hcu
      go_wp2_with go_skip
      refine regCopy5 (by kernel_rfl) (b0 := w.heap.size) (g := g1) (n := t.ln) (c := c1) (i := i) (x := t.lt i) (box := boxC t A1 A2 c1 c2) (cur := cur) (of_decide_eq_true (by kernel_rfl)) rfl rfl hlt hbox (by rw [(HF.out.l (by omega)).1]; rfl) hrow (fun q u hu => HC.out.2 i hlt q u (by rw [if_neg (Nat.lt_irrefl i)]; exact hu)) (fun W hb => IL.out i hlt W (((HT.out.l i hlt).move (hbl.trans (hb.mono hbl.size))).up (hbl.trans (hb.mono hbl.size)).size) (SM.out.l i hlt)) ?_
      intro θ wY y e8 e9 hy hY
      simp only [seqTo, dstOf, Act.put, List.getElem?_toArray, List.getElem?_cons_zero, List.getElem?_cons_succ, Option.bind_some, List.setIfInBounds_toArray, List.set_cons_zero, List.set_cons_succ, List.drop_succ_cons, List.drop_zero]
      rw [e8, e9]
      clear e8 e9
      refine store_sub rfl 38 (.tmp 28) (.tmp 27) rfl g1 (i * 5) y.c rfl rfl (all_mem (VT.c_one _)) 38 cur ((hY.block g1 (Array.getElem?_eq_some_iff.1 hrow).1).trans hrow) (by have := (HF.out.l (by omega)).2.2.2; rw [HC.out.1]; show i * 5 + 5 ≤ _; omega) (VT.val_info _) ?_
      intro wn hgn hon hbn hsn
      have hN := CopI.nextL HF.out HI.out hlt hrow hY hy hgn hon hbn hsn
      clear hgn hon hbn hsn hrow hbox hbl
      go_wp2_with go_skip
      go_roundw
      case rel => exact ⟨i + 1, _, by omega, by go_num, hN⟩
      case measure => simp [intOf]; omega
    · have hge : decide ((i : Int) < t.ln) = false := by simp; omega
      obtain rfl : i = t.ln := by omega
      have c4 : wr.cell? ⟨w.heap.size, 4, none⟩ = some (.slice A2 t.mn c2) := cell_of_row _ _ 4 _ _ _ hI.box
      clear hI
      go_wp2_with go_skip
      go_loopw [4, 33] (fun x iv wr => ∃ (i : Nat) (G : Nat → VT), i ≤ t.mn ∧ iv = .int .i64 (i : Int) ∧ CopI w t B A1 A2 g1 g2 c1 c2 F G t.ln i wr) (fun _ iv _ => t.mn - (intOf iv).toNat)
      case atStart => exact ⟨0, _, Nat.zero_le _, rfl, HI.out⟩
      case round =>
        clear HI c4
        rename_i wr
        obtain ⟨i, G, hi, rfl, hI⟩ := hrel
        have HI := Lib.hid hI
        by_cases hlt : i < t.mn
        · have hltb : decide ((i : Int) < t.mn) = true := by simp; omega
          obtain ⟨cur, hrow, hcs, hcu⟩ := hI.rowM (by omega)
          have hbox := hI.box
          have hbl := hI.below
          have HC := Lib.hid (And.intro hcs hcu)
          clear hI hcs hcu
          go_wp2_with go_skip
          refine regCopy10 (by kernel_rfl) (b0 := w.heap.size) (g := g2) (n := t.mn) (c := c2) (i := i) (x := t.mt i) (box := boxC t A1 A2 c1 c2) (cur := cur) (of_decide_eq_true (by kernel_rfl)) rfl rfl hlt hbox (by rw [(HF.out.m (by omega)).1]; rfl) hrow (fun q u hu => by rw [show i * 6 + 1 + q = i * 6 + (q + 1) by omega]; refine HC.out.2 i hlt (q + 1) u ?_; rw [if_neg (Nat.lt_irrefl i), ← hu]; simp [pcK, VT.c]) (fun W hb => IM.out i hlt W (((HT.out.m i hlt).move (hbl.trans (hb.mono hbl.size))).up (hbl.trans (hb.mono hbl.size)).size) (SM.out.m i hlt)) ?_
          intro θ wY y e8 e9 hy hY
          simp only [seqTo, dstOf, Act.put, List.getElem?_toArray, List.getElem?_cons_zero, List.getElem?_cons_succ, Option.bind_some, List.setIfInBounds_toArray, List.set_cons_zero, List.set_cons_succ, List.drop_succ_cons, List.drop_zero]
          rw [e8, e9]
          clear e8 e9
          refine store_sub rfl 38 (.tmp 47) (.tmp 45) rfl g2 (i * 6 + 1) y.c rfl rfl (all_mem (VT.c_one _)) 82 cur ((hY.block g2 (Array.getElem?_eq_some_iff.1 hrow).1).trans hrow) (by have := (HF.out.m (by omega)).2.2.2; rw [HC.out.1]; show i * 6 + 1 + 5 ≤ _; omega) (VT.val_info _) ?_
          intro wn hgn hon hbn hsn
          have hN := CopI.nextM HF.out HI.out hlt hrow hY hy hgn hon hbn hsn
          clear hgn hon hbn hsn hrow hbox hbl
          go_wp2_with go_skip
          go_roundw
          case rel => exact ⟨i + 1, _, by omega, by go_num, hN⟩
          case measure => simp [intOf]; omega
        · have hge : decide ((i : Int) < t.mn) = false := by simp; omega
          obtain rfl : i = t.mn := by omega
          have hbox := hI.box
          have hres := hI.res
          clear hI
          go_wp2_with (first | go_skip | (refine wpList_load_row' rfl 38 (.tmp 1) rfl _ rfl 38 _ (0, 0) _ hbox Tryz.underlying38 rfl (VT.val_info t) ?_) | (refine wpList_store_row rfl 38 (.tmp 2) (.tmp 49) rfl _ (boxC t A1 A2 c1 c2) rfl rfl 38 _ hres (VT.val_info t) rfl (boxC_one t A1 A2 c1 c2) ?_; intro wn hbn hgn hon hsn))
          exact bodyPost_ret (v := .agg (boxC t A1 A2 c1 c2)) (results_cell_row rfl _ _ _ _ _ _ _ rfl hgn Tryz.underlying38 rfl (VT.val_info t)) rfl ⟨outT t A1 A2 g1 g2 c1 c2 F G, rfl, CopI.end_ HF.out HA HI.out hon hsn, HI.out.below.trans (hbn.mono (by omega))⟩
theorem vCopy_any (t : VT) : CopyOk t := by
  have key : ∀ t : VT, (∀ i, i < t.ln → CopyOk (t.lt i)) → (∀ i, i < t.mn → CopyOk (t.mt i)) → CopyOk t := fun t ihl ihm w ht hs => vcopy_go t w ht hs ihl ihm
  induction t with
  | no => exact key .no (fun i hi => absurd hi (Nat.not_lt_zero i)) (fun i hi => absurd hi (Nat.not_lt_zero i))
  | mk k n s lA lb lo ln lc lt mA mb mo mn mc ky mt ihl ihm => exact key (.mk k n s lA lb lo ln lc lt mA mb mo mn mc ky mt) (fun i _ => ihl i) (fun i _ => ihm i)
end Go.Proofs.YtffcpmohanhihaaGreatDoor
