/-
  A statement whose order Go leaves open: append(append([]T{}, a..), x), with what only reads between; then the rest, one behind the other. No condition of a law's; a tool of the walks.
  A row of operations of one's own, beside boxes. No condition.
-/
import Derived.Test.YtffcpmohanhihaaGreatDoorRegBJ
import Derived.Test.YtffcpmohanhihaaGreatDoorJ14
import Derived.Test.YtffcpmohanhihaaGreatDoorRWordJ
import Derived.Test.YtffcpmohanhihaaGreatDoorJ17
namespace Go.Proofs.YtffcpmohanhihaaGreatDoor
open Go.Sort Go.RowKit
set_option linter.unusedVariables false
set_option linter.unusedSimpArgs false
theorem alloc_old (w : World) (o : Obj) {k : Nat} (hk : k < w.heap.size) : (w.alloc o).heap[k]? = w.heap[k]? := ((Below.refl w.heap.size w).alloc (Nat.le_refl _) o).block k hk
theorem owns_keep {W W' : World} {base : Nat} {e : TypeId} {size : Nat} {v : Value} {n : Nat} {xs : List Value} (h : W.ownsRow base e size v n xs) (hk : ∀ k, v.ownBlock = some k → k < W.heap.size → W'.heap[k]? = W.heap[k]?) : W'.ownsRow base e size v n xs := by
  obtain ⟨h1, h2⟩ := h
  refine ⟨h1, ?_⟩
  rcases h2 with h2 | ⟨g, cap, cur, rfl, hb, hg, h3⟩
  · exact .inl h2
  · exact .inr ⟨g, cap, cur, rfl, hb, (hk g rfl (Array.getElem?_eq_some_iff.1 hg).1).trans hg, h3⟩
theorem owns_base {W : World} {base : Nat} {e : TypeId} {size : Nat} {v : Value} {n : Nat} {xs : List Value} (h : W.ownsRow base e size v n xs) {k : Nat} (hk : v.ownBlock = some k) : base ≤ k ∧ k < W.heap.size := by
  rcases h.2 with ⟨rfl, _⟩ | ⟨g, cap, cur, rfl, hb, hg, _⟩
  · cases hk
  · obtain rfl : g = k := Option.some.inj hk
    exact ⟨hb, (Array.getElem?_eq_some_iff.1 hg).1⟩
theorem owns_none {w : World} {base : Nat} {e : TypeId} {size : Nat} (hb : base ≤ w.heap.size) : (w.alloc (.cells #[] e)).ownsRow base e size (.slice (some ⟨w.heap.size, 0, none⟩) 0 0) 0 [] :=
  ⟨by simp, .inr ⟨w.heap.size, 0, #[], rfl, hb, heap_alloc_new _ _, Nat.le_refl _, Nat.zero_le _, by simp, by simp⟩⟩
/-- What stands while the row is made: see the fields. -/
structure EnvI (w0 : World) (e : TypeId) (size : Nat) (n p0 p1 p2 p3 n1 : Nat) (xs1 : List Value) (x : Array Value) (val : Nat → Value) (θ : Nat → Value) (L : Nat → Bool) (W : World) : Prop where
  below : Below w0.heap.size w0 W
  told : ∀ i, i < n → i ≠ p0 → i ≠ p1 → i ≠ p2 → i ≠ p3 → L i = true → θ i = val i
  made : L p0 = true → L p1 = false → W.ownsRow w0.heap.size e size (θ p0) 0 []
  head : L p1 = true → L p3 = false → W.ownsRow w0.heap.size e size (θ p1) n1 xs1
  part : L p2 = true → L p3 = false → ∃ b, θ p2 = .slice (some ⟨b, 0, none⟩) 1 1 ∧ b < W.heap.size ∧ w0.heap.size ≤ b ∧ W.heap[b]? = some (.cells x e (0, 0)) ∧ (L p0 = true → L p1 = false → (θ p0).ownBlock ≠ some b) ∧ (L p1 = true → (θ p1).ownBlock ≠ some b)
  both : L p3 = true → W.ownsRow w0.heap.size e size (θ p3) (n1 + 1) (xs1 ++ x.toList)
  o1 : L p1 = true → L p0 = true
  o3 : L p3 = true → L p1 = true ∧ L p2 = true
section
variable {P : Program} {Q : Exit → Act → World → Prop} {ops : Array Oper}
theorem wp_region_ins {id : Nat} {a0 : Act} {w0 : World} (e : TypeId) (size n p0 p1 p2 p3 n1 : Nat) (xs1 : List Value) (x : Array Value) (val : Nat → Value) (hm : P.follows .mixedOrders = true) (hs : Region.noSelect ops = true) (hB : ordOK ops = true) (hn : n ≤ ops.size) (hT : tailOK ops n = true)
    (h01 : p0 < p1) (h12 : p1 < p2) (h23 : p2 < p3) (h3n : p3 < n) (w10 : waits ops p1 p0 = true) (w31 : waits ops p3 p1 = true) (w32 : waits ops p3 p2 = true)
    (hwt : ∀ i o, i < n → ops[i]? = some o → o.guard = none)
    (hq : ∀ i o, i < n → i ≠ p0 → i ≠ p1 → i ≠ p2 → i ≠ p3 → ops[i]? = some o → ∀ θ W, Below w0.heap.size w0 W → (∀ j, j < n → j ≠ p0 → j ≠ p1 → j ≠ p2 → j ≠ p3 → waits ops i j = true → θ j = val j) → gives P o (seqTo ops θ a0 i) W (fun v w' => v = val i ∧ w' = W))
    (hg0 : ∀ o, ops[p0]? = some o → ∀ θ W, gives P o (seqTo ops θ a0 p0) W (fun v w' => v = .slice (some ⟨W.heap.size, 0, none⟩) 0 0 ∧ w' = W.alloc (.cells #[] e)))
    (hg1 : ∀ o, ops[p1]? = some o → ∀ θ W, Below w0.heap.size w0 W → (∀ j, j < n → j ≠ p0 → j ≠ p1 → j ≠ p2 → j ≠ p3 → waits ops p1 j = true → θ j = val j) → W.ownsRow w0.heap.size e size (θ p0) 0 [] → gives P o (seqTo ops θ a0 p1) W (fun v w' => w'.ownsRow w0.heap.size e size v n1 xs1 ∧ W.grownBy w' (θ p0).ownBlock ∧ (v.ownBlock = (θ p0).ownBlock ∨ v.ownBlock = some W.heap.size)))
    (hg2 : ∀ o, ops[p2]? = some o → ∀ θ W, Below w0.heap.size w0 W → (∀ j, j < n → j ≠ p0 → j ≠ p1 → j ≠ p2 → j ≠ p3 → waits ops p2 j = true → θ j = val j) → gives P o (seqTo ops θ a0 p2) W (fun v w' => v = .slice (some ⟨W.heap.size, 0, none⟩) 1 1 ∧ w' = W.alloc (.cells x e)))
    (hg3 : ∀ o, ops[p3]? = some o → ∀ θ W b, Below w0.heap.size w0 W → W.ownsRow w0.heap.size e size (θ p1) n1 xs1 → θ p2 = .slice (some ⟨b, 0, none⟩) 1 1 → W.heap[b]? = some (.cells x e (0, 0)) → gives P o (seqTo ops θ a0 p3) W (fun v w' => w'.ownsRow w0.heap.size e size v (n1 + 1) (xs1 ++ x.toList) ∧ W.grownBy w' (θ p1).ownBlock ∧ (v.ownBlock = (θ p1).ownBlock ∨ v.ownBlock = some W.heap.size)))
    (hend : ∀ θ W, Below w0.heap.size w0 W → (∀ j, j < n → j ≠ p0 → j ≠ p1 → j ≠ p2 → j ≠ p3 → θ j = val j) → W.ownsRow w0.heap.size e size (θ p3) (n1 + 1) (xs1 ++ x.toList) → wpList P ops Q (ops.toList.drop n) (seqTo ops θ a0 n) W) :
    (Code.region id ops true).wp P Q a0 w0 := by
  have hwant : ∀ i o, i < n → ops[i]? = some o → ∀ y, Region.wanted o y = true := fun i o hi ho y => by
    have h := hwt i o hi ho
    obtain ⟨d, p, ty, ps, af, g⟩ := o
    subst h; rfl
  refine wp_region_env n hm hs hB hn hT (EnvI w0 e size n p0 p1 p2 p3 n1 xs1 x val) ⟨fun _ => undef, (Below.refl _ _).drew, (fun i _ _ _ _ _ h => by cases h), (fun h => by cases h), (fun h => by cases h), (fun h => by cases h), (fun h => by cases h), (fun h => by cases h), (fun h => by cases h)⟩ ?_ ?_
  · intro i o hin ho θ L W hC hLi hdep hlat
    rw [if_pos (hwant i o hin ho _)]
    have hsz := hC.below.size
    by_cases i0 : i = p0
    · subst i0
      have l1 : L p1 = false := hlat _ w10
      have l3 : L p3 = false := by
        cases h : L p3 with
        | false => rfl
        | true => rw [(hC.o3 h).1] at l1; cases l1
      refine gives_imp (hg0 o ho θ W) ?_
      rintro v w' ⟨rfl, rfl⟩
      refine ⟨hC.below.alloc hsz _, fun j hj a b c d hl => ?_, fun _ _ => ?_, fun h => ?_, fun h _ => ?_, fun h => ?_, fun h => ?_, fun h => ?_⟩
      · rw [updL_ne _ a] at hl; rw [updV_ne _ _ a]; exact hC.told j hj a b c d hl
      · rw [updV_same]; exact owns_none hsz
      · rw [updL_ne _ (by omega), l1] at h; cases h
      · rw [updL_ne _ (by omega)] at h
        obtain ⟨b, e2, hb, hb0, hc, _, _⟩ := hC.part h l3
        refine ⟨b, by rw [updV_ne _ _ (by omega)]; exact e2, ?_, hb0, (alloc_old _ _ hb).trans hc, fun _ _ hh => ?_, fun h1 => ?_⟩
        · show b < (W.heap.push _).size; rw [Array.size_push]; omega
        · rw [updV_same] at hh; have := Option.some.inj hh; simp only at this; omega
        · rw [updL_ne _ (by omega), l1] at h1; cases h1
      · rw [updL_ne _ (by omega), l3] at h; cases h
      · rw [updL_same]
      · rw [updL_ne _ (by omega), l3] at h; cases h
    by_cases i1 : i = p1
    · subst i1
      have l0 : L p0 = true := hdep _ w10
      have l3 : L p3 = false := hlat _ w31
      have hrow := hC.made l0 hLi
      refine gives_imp (hg1 o ho θ W hC.below (fun j hj a b c d hw => hC.told j hj a b c d (hdep j hw)) hrow) ?_
      rintro v w' ⟨hown, hgr, hblk⟩
      refine ⟨hC.below.trans (below_of_grown hgr hsz (fun k hk => (owns_base hrow hk).1)), fun j hj a b c d hl => ?_, fun _ h => ?_, fun _ _ => ?_, fun h _ => ?_, fun h => ?_, fun h => ?_, fun h => ?_⟩
      · rw [updL_ne _ b] at hl; rw [updV_ne _ _ b]; exact hC.told j hj a b c d hl
      · rw [updL_same] at h; cases h
      · rw [updV_same]; exact hown
      · rw [updL_ne _ (by omega)] at h
        obtain ⟨b, e2, hb, hb0, hc, hd, _⟩ := hC.part h l3
        have hne := hd l0 hLi
        refine ⟨b, by rw [updV_ne _ _ (by omega)]; exact e2, Nat.lt_of_lt_of_le hb hgr.size, hb0, (hgr.block b hb (fun hh => hne hh.symm)).trans hc, fun _ h1 => ?_, fun _ hh => ?_⟩
        · rw [updL_same] at h1; cases h1
        · rw [updV_same] at hh
          rcases hblk with h1 | h1
          · exact hne (h1.symm.trans hh)
          · have := Option.some.inj (h1.symm.trans hh); omega
      · rw [updL_ne _ (by omega), l3] at h; cases h
      · rw [updL_ne _ (by omega)]; exact l0
      · rw [updL_ne _ (by omega), l3] at h; cases h
    by_cases i2 : i = p2
    · subst i2
      have l3 : L p3 = false := hlat _ w32
      refine gives_imp (hg2 o ho θ W hC.below (fun j hj a b c d hw => hC.told j hj a b c d (hdep j hw))) ?_
      rintro v w' ⟨rfl, rfl⟩
      refine ⟨hC.below.alloc hsz _, fun j hj a b c d hl => ?_, fun h h1 => ?_, fun h _ => ?_, fun _ _ => ?_, fun h => ?_, fun h => ?_, fun h => ?_⟩
      · rw [updL_ne _ c] at hl; rw [updV_ne _ _ c]; exact hC.told j hj a b c d hl
      · rw [updL_ne _ (by omega)] at h h1; rw [updV_ne _ _ (by omega)]
        exact owns_keep (hC.made h h1) (fun k _ hk => alloc_old _ _ hk)
      · rw [updL_ne _ (by omega)] at h; rw [updV_ne _ _ (by omega)]
        exact owns_keep (hC.head h l3) (fun k _ hk => alloc_old _ _ hk)
      · refine ⟨W.heap.size, by rw [updV_same], ?_, hsz, heap_alloc_new _ _, fun h h1 hh => ?_, fun h hh => ?_⟩
        · show W.heap.size < (W.heap.push _).size; rw [Array.size_push]; omega
        · rw [updL_ne _ (by omega)] at h h1; rw [updV_ne _ _ (by omega)] at hh
          have := (owns_base (hC.made h h1) hh).2; omega
        · rw [updL_ne _ (by omega)] at h; rw [updV_ne _ _ (by omega)] at hh
          have := (owns_base (hC.head h l3) hh).2; omega
      · rw [updL_ne _ (by omega), l3] at h; cases h
      · rw [updL_ne _ (by omega)] at h; rw [updL_ne _ (by omega)]; exact hC.o1 h
      · rw [updL_ne _ (by omega), l3] at h; cases h
    by_cases i3 : i = p3
    · subst i3
      have l1 : L p1 = true := hdep _ w31
      have l2 : L p2 = true := hdep _ w32
      have hrow := hC.head l1 hLi
      obtain ⟨b, e2, hb, hb0, hc, _, hd⟩ := hC.part l2 hLi
      refine gives_imp (hg3 o ho θ W b hC.below hrow e2 hc) ?_
      rintro v w' ⟨hown, hgr, hblk⟩
      refine ⟨hC.below.trans (below_of_grown hgr hsz (fun k hk => (owns_base hrow hk).1)), fun j hj a b c d hl => ?_, fun _ h => ?_, fun _ h => ?_, fun _ h => ?_, fun _ => ?_, fun h => ?_, fun _ => ?_⟩
      · rw [updL_ne _ d] at hl; rw [updV_ne _ _ d]; exact hC.told j hj a b c d hl
      · rw [updL_ne _ (by omega), l1] at h; cases h
      · rw [updL_same] at h; cases h
      · rw [updL_same] at h; cases h
      · rw [updV_same]; exact hown
      · rw [updL_ne _ (by omega)]; exact hC.o1 l1
      · rw [updL_ne _ (by omega), updL_ne _ (by omega)]; exact ⟨l1, l2⟩
    · refine gives_imp (hq i o hin i0 i1 i2 i3 ho θ W hC.below (fun j hj a b c d hw => hC.told j hj a b c d (hdep j hw))) ?_
      rintro v w' ⟨rfl, rfl⟩
      have n0 := Ne.symm i0
      have n1' := Ne.symm i1
      have n2 := Ne.symm i2
      have n3 := Ne.symm i3
      refine ⟨hC.below, fun j hj a b c d hl => ?_, ?_, ?_, ?_, ?_, ?_, ?_⟩
      · by_cases hji : j = i
        · subst hji; rw [updV_same]
        · rw [updL_ne _ hji] at hl; rw [updV_ne _ _ hji]; exact hC.told j hj a b c d hl
      all_goals simp only [updL_ne _ n0, updL_ne _ n1', updL_ne _ n2, updL_ne _ n3, updV_ne _ _ n0, updV_ne _ _ n1', updV_ne _ _ n2, updV_ne _ _ n3]
      · exact hC.made
      · exact hC.head
      · exact hC.part
      · exact hC.both
      · exact hC.o1
      · exact hC.o3
  · intro θ L W hC hL
    have hall : ∀ j, j < n → L j = true := fun j hj => by rw [hL]; simpa using hj
    exact hend θ W hC.below (fun j hj a b c d => hC.told j hj a b c d (hall j hj)) (hC.both (hall _ h3n))
end
end Go.Proofs.YtffcpmohanhihaaGreatDoor
namespace Go.Proofs.YtffcpmohanhihaaGreatDoor
open Go.RowKit Go.Sort
set_option linter.unusedVariables false
set_option linter.unusedSimpArgs false
set_option linter.unusedSectionVars false
def flatO (L : List OT) : List Value := L.flatMap (fun x => x.o.c.toList)
/-- A row of operations that nobody else writes. -/
structure RowW (w0 W : World) (v : Value) (L : List OT) : Prop where
  own : W.ownsRow w0.heap.size 40 79 v L.length (flatO L)
  ok : ∀ x ∈ L, OT.Ok x
theorem RowW.nil (w0 W : World) : RowW w0 W (.slice none 0 0) [] := ⟨World.ownsRow_nil _ _ _ _, fun x h => absurd h List.not_mem_nil⟩
theorem RowW.keep {w0 W W' : World} {v : Value} {L : List OT} (h : RowW w0 W v L) (hk : ∀ k, v.ownBlock = some k → k < W.heap.size → W'.heap[k]? = W.heap[k]?) : RowW w0 W' v L := ⟨owns_keep h.own hk, h.ok⟩
theorem RowW.move {w0 W W' : World} {v : Value} {L : List OT} (h : RowW w0 W v L) (hb : Below W.heap.size W W') : RowW w0 W' v L := h.keep fun k _ hk => hb.block k hk
theorem Boxes.grown {w0 W W' : World} {L : List (Nat × Obj)} {row : Option Nat} (h : Boxes w0 W L) (hg : W.grownBy W' row) (hne : ∀ p ∈ L, row ≠ some p.1) (hr : ∀ k, row = some k → w0.heap.size ≤ k) : Boxes w0 W' L :=
  ⟨h.below.trans (below_of_grown hg h.below.size hr), fun i p hp => ⟨(h.rows i p hp).1, (hg.block p.1 (Array.getElem?_eq_some_iff.1 (h.rows i p hp).2).1 (fun e => hne p (List.mem_of_getElem? hp) e.symm)).trans (h.rows i p hp).2⟩, h.apart⟩
theorem ok_size {x : OT} (h : OT.Ok x) : x.o.c.toList.length = 79 := by rw [Array.length_toList, OpV.size h.seen]
theorem owns_cap' {W : World} {base : Nat} {e : TypeId} {size : Nat} {A : Option Addr} {n c : Nat} {xs : List Value} (h : W.ownsRow base e size (.slice A n c) n xs) : n ≤ c := by
  rcases h.2 with ⟨h1, rfl⟩ | ⟨g, cap, cur, h1, _, _, h2, _⟩
  · omega
  · injection h1 with _ _ h3; omega
theorem flatO_at : ∀ {L : List OT}, (∀ x ∈ L, OT.Ok x) → ∀ (i : Nat) x, L[i]? = some x → ∀ (j : Nat) v, x.o.c[j]? = some v → (flatO L)[i * 79 + j]? = some v
  | [], _, i, x, h, _, _, _ => by simp at h
  | y :: L, hok, 0, x, h, j, v, hv => by
    obtain rfl : y = x := by simpa using h
    have hj : j < y.o.c.toList.length := by rw [Array.length_toList]; exact (Array.getElem?_eq_some_iff.1 hv).1
    show (y.o.c.toList ++ flatO L)[0 * 79 + j]? = some v
    rw [Nat.zero_mul, Nat.zero_add, List.getElem?_append_left hj, Array.getElem?_toList]
    exact hv
  | y :: L, hok, i + 1, x, h, j, v, hv => by
    show (y.o.c.toList ++ flatO L)[(i + 1) * 79 + j]? = some v
    have hs := ok_size (hok y (List.mem_cons_self ..))
    rw [List.getElem?_append_right (by rw [hs]; omega), hs, show (i + 1) * 79 + j - 79 = i * 79 + j by omega]
    exact flatO_at (fun z hz => hok z (List.mem_cons_of_mem _ hz)) i x (by simpa using h) j v hv
theorem RowW.opsIn {w0 W : World} {v : Value} {L : List OT} (h : RowW w0 W v L) : ∃ A g c, v = .slice A L.length c ∧ OpsIn W.heap.size W A g 0 L ∧ ∀ k, v.ownBlock = some k → w0.heap.size ≤ k ∧ k < W.heap.size := by
  have hb : ∀ k, v.ownBlock = some k → w0.heap.size ≤ k ∧ k < W.heap.size := fun k hk => owns_base h.own hk
  rcases h.own.2 with ⟨rfl, hn⟩ | ⟨g, cap, cur, rfl, h0, hg, hnc, hcm, hcs, htake⟩
  · refine ⟨none, 0, 0, by rw [hn], ⟨fun h => absurd h (by omega), fun i x hx => ?_, h.ok⟩, hb⟩
    have := (List.getElem?_eq_some_iff.1 hx).1
    omega
  · refine ⟨some ⟨g, 0, none⟩, g, cap, rfl, ⟨fun _ => ⟨rfl, (Array.getElem?_eq_some_iff.1 hg).1⟩, fun i x hx j u hu => ?_, h.ok⟩, hb⟩
    have h1 := flatO_at h.ok i x hx j u hu
    rw [← htake, List.getElem?_take] at h1
    split at h1
    · rw [Nat.zero_add, cell_of_row W g _ cur _ _ hg, ← Array.getElem?_toList]; exact h1
    · cases h1
theorem infoO : (Tryz.prog.info? 40).map (fun i => (i.zero, i.size, i.bytes)) = some (some (.agg zeroO.c), 79, 680) := by kernel_rfl
theorem flatO_snoc (L : List OT) (x : OT) : flatO (L ++ [x]) = flatO L ++ x.o.c.toList := by unfold flatO; simp
theorem RowW.slice {w0 W : World} {v : Value} {L : List OT} (h : RowW w0 W v L) : ∃ A g c, v = .slice A L.length c ∧ OpsIn W.heap.size W A g 0 L ∧ L.length ≤ c := by
  obtain ⟨A, g, c, rfl, h1, _⟩ := h.opsIn
  exact ⟨A, g, c, rfl, h1, owns_cap' h.own⟩
section
variable {ops : Array Oper} {rest : List Oper} {o : Oper} {a : Act} {w : World} {Q : Exit → Act → World → Prop}
/-- One operation more, behind a row of one's own. -/
theorem apop_arm (hgd : o.guard = none) (s x : Operand) (ho : o.op = .call { callee := .builtin .append, args := #[s, x], argTypes := #[49, 49] }) {w0 : World} {L : List OT} {A : Option Addr} {n c : Nat} (y : OT) (b : Nat)
    (hs : a.eval s = .slice A n c) (hx : a.eval x = .slice (some ⟨b, 0, none⟩) 1 1) (hR : RowW w0 w (.slice A n c) L) (hy : OT.Ok y) (hb : w.heap[b]? = some (.cells y.o.c 40 (0, 0))) (hn : L.length + 1 ≤ 1000000) (hw0 : w0.heap.size ≤ w.heap.size)
    (h : ∀ A' g' c' w', RowW w0 w' (.slice A' (L.length + 1) c') (L ++ [y]) → w.grownBy w' (Value.slice A n c).ownBlock → ((Value.slice A' (L.length + 1) c').ownBlock = (Value.slice A n c).ownBlock ∨ (Value.slice A' (L.length + 1) c').ownBlock = some w.heap.size) → OpsIn w'.heap.size w' A' g' 0 (L ++ [y]) → wpList Tryz.prog ops Q rest (a.put o.dst (.slice A' (L.length + 1) c')) w') : wpList Tryz.prog ops Q (o :: rest) a w := by
  obtain ⟨i, hi, h1, h2, h3⟩ := info_parts infoO
  refine wpList_append_own_at w hgd s x 49 ho w0.heap.size 40 i (.agg zeroO.c) 79 680 Tryz.underlying49 hi h1 h2 h3 rfl (by decide) _ L.length (flatO L) hs hR.own ⟨b, 0, none⟩ 1 1 y.o.c.toList hx (by rw [ok_size hy]) (fun j u hu => by
    rw [add_at, Nat.zero_add, cell_of_row w b j _ _ _ hb, ← Array.getElem?_toList]
    exact hu) (fun u hu => by simpa using (Array.all_eq_true_iff_forall_mem.1 (ot_one hy.vc)) u (Array.mem_toList_iff.1 hu)) (by unfold maxLen; omega) (by omega) hw0 ?_
  intro v' w' hown hg _ hat
  have hR' : RowW w0 w' v' (L ++ [y]) := ⟨by rw [flatO_snoc, List.length_append]; exact hown, fun z hz => by rcases List.mem_append.1 hz with hz | hz; exact hR.ok z hz; rw [List.mem_singleton.1 hz]; exact hy⟩
  obtain ⟨A', g', c', rfl, hO, _⟩ := hR'.opsIn
  rw [List.length_append, List.length_singleton] at hR' hat ⊢
  exact h A' g' c' w' hR' hg hat hO
end
theorem fold_set (l : List Value) : ∀ (k : Nat) (a : Array Value), a.size = k + l.length → (l.zipIdx k).foldl (fun cs p => cs.setIfInBounds p.2 p.1) a = (a.toList.take k ++ l).toArray := by
  induction l with
  | nil =>
    intro k a h
    simp only [List.length_nil, Nat.add_zero] at h
    subst h
    simp only [List.zipIdx_nil, List.foldl_nil, List.append_nil]
    rw [List.take_of_length_le (by simp)]
  | cons v r ih =>
    intro k a h
    simp only [List.length_cons] at h
    rw [List.zipIdx_cons, List.foldl_cons, ih (k + 1) _ (by rw [Array.size_setIfInBounds]; omega)]
    congr 1
    rw [Array.toList_setIfInBounds, List.take_set, List.take_add_one, Array.getElem?_toList, Array.getElem?_eq_getElem (by omega)]
    have hl : (List.take k a.toList).length = k := by rw [List.length_take, Array.length_toList]; omega
    rw [List.set_append_right _ _ (by omega), hl, Nat.sub_self]
    simp
theorem fill_one (place : Nat → Option (Nat × Nat)) (n : Nat) (Z cs : Array Value) (h : place 0 = some (0, n)) (hZ : Z.size = n) (hc : cs.size = n) : Instr.fill place Z [(0, .agg cs)] = some cs := by
  have hv : (Value.agg cs).cells = cs := rfl
  simp only [Instr.fill, h, hv, hc, hZ, Nat.zero_add, ne_eq, not_true_eq_false, decide_false, Bool.false_or, gt_iff_lt, Nat.lt_irrefl, Bool.false_eq_true, if_false]
  congr 1
  rw [← Array.foldl_toList, Array.toList_zipIdx]
  rw [fold_set cs.toList 0 Z (by rw [hZ, Array.length_toList, hc]; omega)]
  simp
theorem size_op (W : World) : (Go.sizeOf 40).run Tryz.prog W = .ok 79 W := by kernel_rfl
theorem build_op1 (c : Array Value) (hc : c.size = 79) (W : World) : (Instr.buildSlice 49 1 #[(0, .agg c)]).run Tryz.prog W = .ok (.slice (some ⟨W.heap.size, 0, none⟩) 1 1) (W.alloc (.cells c 40)) := by
  unfold Instr.buildSlice
  rw [Sem.run_bind, run_underlying Tryz.underlying49 W, Result.andThen_ok]
  simp only [Sem.run_bind, size_op, Result.andThen_ok, op_zero, Nat.one_mul, show ¬ (79 > 2 ^ 24) by decide, if_false, show ¬ ((79 : Nat) = 0) by decide, Sem.run_pure]
  rw [fill_one _ 79 _ c rfl (by simp) hc]
  rfl
end Go.Proofs.YtffcpmohanhihaaGreatDoor
