/-
  Documents and buffers in their one form: what Add leaves is a function of it. No condition beside what fits.
  A document and a buffer beside it, in their one form: Add, Len, Vec, Waiting, Copy as functions of it.
-/
import Derived.Test.YtffcpmohanhihaaGreatDoorJ21
namespace Go.Proofs.YtffcpmohanhihaaGreatDoor
open Go.RowKit
set_option linter.unusedVariables false
set_option linter.unusedSimpArgs false
set_option linter.unusedSectionVars false
section
variable {K : Type} [DecidableEq K]
def canL (l : List (K × OT)) : List (K × OT) := l.map fun p => (p.1, p.2.can)
theorem assoc_can (l : List (K × OT)) (k : K) : assoc (canL l) k = (assoc l k).map OT.can := by
  induction l with
  | nil => rfl
  | cons p r ih =>
    obtain ⟨a, b⟩ := p
    show assoc ((a, b.can) :: canL r) k = (assoc ((a, b) :: r) k).map OT.can
    simp only [assoc]
    split
    · rfl
    · exact ih
theorem put_can (l : List (K × OT)) (k : K) (x : OT) : canL (assocPut l k x) = assocPut (canL l) k x.can := by
  induction l with
  | nil => rfl
  | cons p r ih =>
    obtain ⟨a, b⟩ := p
    show canL (assocPut ((a, b) :: r) k x) = assocPut ((a, b.can) :: canL r) k x.can
    simp only [assocPut]
    split
    · rfl
    · show (a, b.can) :: canL (assocPut r k x) = _
      rw [ih]
end
def DocS.can (s : DocS) : DocS := ⟨s.v, s.t, canL s.l, canL s.la⟩
theorem timeOf_can (l : Ods) (k : IDk) : timeOf (canL l) k = timeOf l k := by
  unfold timeOf
  rw [assoc_can]
  cases assoc l k <;> rfl
theorem sawTo_can (l : Ods) (v : List Int) : ∀ n, sawTo (canL l) v n = sawTo l v n
  | 0 => rfl
  | n + 1 => by rw [sawTo_succ, sawTo_succ, sawTo_can l v n, timeOf_can]
theorem mayB_can (s : DocS) (x : OT) : mayB s.can x.can = mayB s x := by
  unfold mayB sawT
  show (decide (sawTo (canL s.l) x.o.seen 64 < x.o.T) && _ && _) = _
  rw [sawTo_can]
  rfl
theorem OT.Ok.can_good {x : OT} (h : OT.Ok x) : x.can.good = x.good := (good_same h h.can h.can_same).symm
theorem accB_can {x : OT} (h : OT.Ok x) (l : Wd) : accB x.can (canL l) = accB x l := by
  unfold accB
  rw [h.can_good]
  show ((x.o.K == 1 || x.o.K == 2) && x.good && (match assoc (canL l) x.o.key with | some y => afterB x.can.o y.o | none => true)) = _
  rw [assoc_can]
  cases assoc l x.o.key <;> rfl
theorem applyE_can {s : DocS} {x : OT} (h : OT.Ok x) : applyE s.can x.can = applyE s x := by
  unfold applyE
  rw [h.can_good, mayB_can]
  rfl
/-- One operation taken. -/
def takeF (s : DocS) (x : OT) : DocS := ⟨(withOf s.v x.o.R x.o.N).1, tmax s.t x.o.T, assocPut s.l (okey x) x, if accB x s.la = true then assocPut s.la x.o.key x else s.la⟩
theorem took_can {s s' : DocS} {x : OT} (hx : OT.Ok x) (h : Took s x s') : s'.can = takeF s.can x.can := by
  obtain ⟨y, r, l2, hy, hxy, hap, rfl⟩ := h
  unfold DocS.can takeF
  show (⟨(withOf s.v x.o.R x.o.N).1, tmax s.t x.o.T, canL (assocPut s.l (okey x) y), canL l2⟩ : DocS) = ⟨(withOf s.v x.o.R x.o.N).1, tmax s.t x.o.T, assocPut (canL s.l) (okey x) x.can, if accB x.can (canL s.la) = true then assocPut (canL s.la) x.o.key x.can else canL s.la⟩
  have ha : accB y s.la = accB x s.la := by rw [← accB_can hy, ← accB_can hx, hxy.can]
  have hk : x.o.key = y.o.key := (congrArg (fun z : OT => z.o.key) hxy.can : x.can.o.key = y.can.o.key)
  obtain ⟨_, hap⟩ := hap
  rw [ha] at hap
  rw [accB_can hx, put_can, hxy.can]
  by_cases e : accB x s.la = true
  · rw [if_pos e] at hap
    obtain ⟨z, hz, hxz, rfl⟩ := hap
    rw [if_pos e, put_can, hk, hxz.can]
  · rw [if_neg e] at hap
    rw [if_neg e, hap]
def appF (s : DocS) (x : OT) : DocS := if applyE s x = 0 then takeF s x else s
theorem app_can {s s' : DocS} {x : OT} (hx : OT.Ok x) (h : AppliedD s x s') : s'.can = appF s.can x.can := by
  unfold appF
  rw [applyE_can hx]
  rcases h with ⟨h, rfl⟩ | ⟨h, h2⟩
  · rw [if_neg h]
  · rw [if_pos h]; exact took_can hx h2
def canO (L : List OT) : List OT := L.map OT.can
theorem canO_len (L : List OT) : (canO L).length = L.length := List.length_map ..
theorem canO_at (L : List OT) (i : Nat) : (canO L)[i]? = L[i]?.map OT.can := List.getElem?_map ..
theorem firstI_can {s : DocS} : ∀ {L : List OT}, (∀ x ∈ L, OT.Ok x) → firstI s.can (canO L) = firstI s L
  | [], _ => by unfold firstI canO; rw [List.map_nil, List.takeWhile_nil, List.takeWhile_nil]
  | a :: L, h => by
    unfold firstI
    show (List.takeWhile (fun z => applyE s.can z == 9) (a.can :: canO L)).length = (List.takeWhile (fun z => applyE s z == 9) (a :: L)).length
    rw [List.takeWhile_cons, List.takeWhile_cons, applyE_can (h a (List.mem_cons_self ..))]
    split
    · show (List.takeWhile (fun z => applyE s.can z == 9) (canO L)).length + 1 = (List.takeWhile (fun z => applyE s z == 9) L).length + 1
      rw [show (List.takeWhile (fun z => applyE s.can z == 9) (canO L)).length = (List.takeWhile (fun z => applyE s z == 9) L).length from firstI_can (s := s) (L := L) fun x hx => h x (List.mem_cons_of_mem _ hx)]
    · rfl
theorem posI_can (x : OT) : ∀ L : List OT, posI x.can (canO L) = posI x L
  | [] => rfl
  | a :: L => by
    unfold posI
    show (List.takeWhile _ (a.can :: canO L)).length = _
    rw [List.takeWhile_cons, List.takeWhile_cons, show lessI a.can x.can = lessI a x from rfl]
    split
    · show (List.takeWhile (fun z => lessI z x.can) (canO L)).length + 1 = (List.takeWhile (fun z => lessI z x) L).length + 1
      rw [show (List.takeWhile (fun z => lessI z x.can) (canO L)).length = (List.takeWhile (fun z => lessI z x) L).length from posI_can x L]
    · rfl
theorem twiceB_can (x : OT) (L : List OT) : twiceB x.can (canO L) = twiceB x L := by
  unfold twiceB
  rw [posI_can, canO_at]
  cases L[posI x L]? <;> rfl
theorem insO_can (i : Nat) (y : OT) (L : List OT) : canO (insO i y L) = insO i y.can (canO L) := by
  unfold canO insO
  rw [List.map_append, List.map_cons, List.map_take, List.map_drop]
theorem delO_can (i : Nat) (L : List OT) : canO (delO i L) = delO i (canO L) := by
  unfold canO delO
  rw [List.map_append, List.map_take, List.map_drop]
def drainF : Nat → DocS → List OT → Int → DocS × List OT × Int
  | 0, s, L, n => (s, L, n)
  | k + 1, s, L, n => match L[firstI s L]? with
    | none => (s, L, n)
    | some x => drainF k (appF s x) (delO (firstI s L) L) (if applyE s x = 0 then n + 1 else n)
theorem Steps.ok {s s' : DocS} {L L' : List OT} {n n' : Int} (h : Steps s L n s' L' n') (hs : DocOk s) (hL : ∀ x ∈ L, OT.Ok x) : DocOk s' ∧ ∀ x ∈ L', OT.Ok x := by
  induction h with
  | refl => exact ⟨hs, hL⟩
  | step h hx ha ih => exact ⟨ha.docok ih.1 (ih.2 _ (List.mem_of_getElem? hx)), delO_ok ih.2⟩
theorem Steps.drain {s s' : DocS} {L L' : List OT} {n n' : Int} (h : Steps s L n s' L' n') (hs : DocOk s) (hL : ∀ x ∈ L, OT.Ok x) : drainF L.length s.can (canO L) n = drainF L'.length s'.can (canO L') n' := by
  induction h with
  | refl => rfl
  | @step s1 s2 L1 n1 x h hx ha ih =>
    obtain ⟨h1, h2⟩ := h.ok hs hL
    have hxo := h2 _ (List.mem_of_getElem? hx)
    rw [ih]
    obtain ⟨hlt, _⟩ := List.getElem?_eq_some_iff.1 hx
    have hd := delO_len hlt
    rw [← hd]
    show (match (canO L1)[firstI s1.can (canO L1)]? with
      | none => (s1.can, canO L1, n1)
      | some x => drainF (delO (firstI s1 L1) L1).length (appF s1.can x) (delO (firstI s1.can (canO L1)) (canO L1)) (if applyE s1.can x = 0 then n1 + 1 else n1)) = _
    rw [firstI_can h2, canO_at, hx]
    show drainF _ (appF s1.can x.can) (delO (firstI s1 L1) (canO L1)) (if applyE s1.can x.can = 0 then n1 + 1 else n1) = _
    rw [← app_can hxo ha, applyE_can hxo, delO_can]
theorem drainF_none {k : Nat} {s : DocS} {L : List OT} {n : Int} (h : firstI s L = L.length) : drainF k s L n = (s, L, n) := by
  cases k with
  | zero => rfl
  | succ k =>
    show (match L[firstI s L]? with
      | none => (s, L, n)
      | some x => drainF k (appF s x) (delO (firstI s L) L) (if applyE s x = 0 then n + 1 else n)) = _
    rw [h, List.getElem?_eq_none (Nat.le_refl _)]
/-- What Add answers and leaves. -/
structure AddV where
  n : Int
  r : Int
  s : DocS
  L : List OT
def waitF (s : DocS) (L : List OT) (x : OT) : AddV := if twiceB x L = true then ⟨0, 5, s, L⟩ else if L.length = 256 then ⟨0, 10, s, L⟩ else ⟨0, 0, s, insO (posI x L) x L⟩
def doneF (d : DocS × List OT × Int) : AddV := ⟨d.2.2, 0, d.1, d.2.1⟩
def addF (s : DocS) (L : List OT) (x : OT) : AddV := if applyE s x = 9 then waitF s L x else if applyE s x = 0 then doneF (drainF L.length (takeF s x) L 1) else ⟨0, applyE s x, s, L⟩
theorem AddR.can {s s' : DocS} {L L' : List OT} {x : OT} {n r : Int} (h : AddR s L x n r s' L') (hs : DocOk s) (hL : ∀ x ∈ L, OT.Ok x) (hx : OT.Ok x) : addF s.can (canO L) x.can = ⟨n, r, s'.can, canO L'⟩ := by
  unfold addF
  rw [applyE_can hx]
  rcases h with ⟨h1, rfl, rfl, h2⟩ | ⟨h1, h2, rfl, rfl, rfl, rfl⟩ | ⟨h1, rfl, s1, h2, h3, h4⟩
  · rw [if_pos h1]
    unfold waitF
    rw [twiceB_can, canO_len, posI_can]
    rcases h2 with ⟨e, rfl, rfl⟩ | ⟨e, e2, rfl, rfl⟩ | ⟨e, e2, rfl, y, hy, hxy, rfl⟩
    · rw [if_pos e]
    · rw [if_neg (by rw [e]; decide), if_pos e2]
    · rw [if_neg (by rw [e]; decide), if_neg e2, insO_can, hxy.can]
  · rw [if_neg h1, if_neg h2]
  · rw [if_neg (by omega), if_pos h1, ← took_can hx h2, canO_len]
    have ho := h2.docok hs hx
    rw [h3.drain ho hL, drainF_none (by rw [firstI_can (h3.ok ho hL).2, canO_len]; exact h4)]
    rfl
end Go.Proofs.YtffcpmohanhihaaGreatDoor
namespace Go.Proofs.YtffcpmohanhihaaGreatDoor
open Go.RowKit
set_option linter.unusedVariables false
set_option linter.unusedSimpArgs false
set_option linter.unusedSectionVars false
theorem Boxes.tail_ {w0 W : World} {q : Nat × Obj} {L : List (Nat × Obj)} (h : Boxes w0 W (q :: L)) : Boxes w0 W L :=
  ⟨h.below, fun i r hr => h.rows (i + 1) r (by simpa using hr), fun i j p q hp hq hij => h.apart (i + 1) (j + 1) p q (by simpa using hp) (by simpa using hq) (by omega)⟩
/-- The pair's blocks. -/
def blocksOf (B : DB) (p : Nat) (A : Option Addr) : List Nat := B.all ++ p :: ownL (.slice A 0 0)
structure PairC (w0 W : World) (B : DB) (p : Nat) (cs : DocS) (cl : List OT) (S : List Nat) : Prop where
  has : ∃ s A c L, Pair w0 W B p s A c L ∧ cs = s.can ∧ cl = canO L ∧ S = blocksOf B p A
theorem PairC.step {w0 W W' : World} {B : DB} {p : Nat} {cs : DocS} {cl : List OT} {S : List Nat} (h : PairC w0 W B p cs cl S) (hb : Below W.heap.size W W') : PairC w0 W' B p cs cl S := by
  obtain ⟨s, A, c, L, hP, e⟩ := h
  exact ⟨s, A, c, L, hP.step hb, e⟩
theorem blocks_mem {B : DB} {p : Nat} {A : Option Addr} {k : Nat} : k ∈ blocksOf B p A ↔ k ∈ B.all ∨ k = p ∨ ∀ n c, (Value.slice A n c).ownBlock = some k := by
  unfold blocksOf
  rw [List.mem_append, List.mem_cons, ownL_mem]
  constructor
  · rintro (h | h | h)
    · exact .inl h
    · exact .inr (.inl h)
    · exact .inr (.inr fun n c => (own_len2 _ _ _ _ _).trans h)
  · rintro (h | h | h)
    · exact .inl h
    · exact .inr (.inl h)
    · exact .inr (.inr (h 0 0))
theorem PairC.lt {w0 W : World} {B : DB} {p : Nat} {cs : DocS} {cl : List OT} {S : List Nat} (h : PairC w0 W B p cs cl S) : ∀ k ∈ S, w0.heap.size ≤ k ∧ k < W.heap.size := by
  obtain ⟨s, A, c, L, hP, _, _, rfl⟩ := h
  intro k hk
  rcases blocks_mem.1 hk with h | rfl | h
  · exact hP.bx.doc.2.2 k h
  · exact ⟨hP.buf.b, (Array.getElem?_eq_some_iff.1 hP.buf.at_).1⟩
  · exact ⟨(owns_base hP.buf.row.own (h _ _)).1, (owns_base hP.buf.row.own (h _ _)).2⟩
theorem PairC.below {w0 W : World} {B : DB} {p : Nat} {cs : DocS} {cl : List OT} {S : List Nat} (h : PairC w0 W B p cs cl S) : Below w0.heap.size w0 W := by
  obtain ⟨s, A, c, L, hP, _⟩ := h
  exact hP.bx.below
/-- Another's blocks are turned: the pair stays. -/
theorem PairC.stay {w0 W W' : World} {B : DB} {p : Nat} {cs : DocS} {cl : List OT} {S T : List Nat} (h : PairC w0 W B p cs cl S) (hb : ButS T W W') (hd : ∀ k ∈ S, k ∉ T) (hT : ∀ k ∈ T, w0.heap.size ≤ k) : PairC w0 W' B p cs cl S := by
  obtain ⟨s, A, c, L, hP, e1, e2, rfl⟩ := h
  refine ⟨s, A, c, L, ⟨hP.bx.stay hb (fun q hq => hd _ (blocks_mem.2 (.inl (docBoxes_mem hq)))) hT, ⟨?_, ?_, hP.buf.ap, hP.buf.b⟩, hP.np, hP.ap, hP.ok, hP.m0⟩, e1, e2, rfl⟩
  · exact (hb.block p (Array.getElem?_eq_some_iff.1 hP.buf.at_).1 (hd _ (blocks_mem.2 (.inr (.inl rfl))))).trans hP.buf.at_
  · exact hP.buf.row.keep fun k hk hlt => hb.block k hlt (hd _ (blocks_mem.2 (.inr (.inr fun n c => (own_len2 _ _ _ _ _).trans hk))))
theorem PairC.new {w W W' : World} {B : DB} {p : Nat} (h1 : Boxes w W [(p, bufO (.slice none 0 0))]) (h2 : Boxes W W' (docBoxes B s0)) : PairC w W' B p s0 [] (blocksOf B p none) := by
  have h := h1.app h2
  refine ⟨s0, none, 0, [], ⟨h.tail_, ⟨h.at_ 0 rfl, RowW.nil _ _, (fun e => by cases e), (h.rows 0 _ rfl).1⟩, ?_, (fun k hk => by cases hk), s0_ok, fun x hx => by cases hx⟩, rfl, rfl, rfl⟩
  intro hm
  have := (h2.doc.2.2 p hm).1
  have := h1.lt 0 rfl
  omega
theorem SameL.can {L M : List OT} (h : SameL L M) : canO M = canO L := by
  have hl := h.1
  apply List.ext_getElem?
  intro i
  rw [canO_at, canO_at]
  by_cases hi : i < L.length
  · obtain ⟨y, hy, hs⟩ := h.2 i _ (List.getElem?_eq_getElem hi)
    rw [hy, List.getElem?_eq_getElem hi]
    exact congrArg some hs.can.symm
  · rw [List.getElem?_eq_none (show M.length ≤ i by omega), List.getElem?_eq_none (show L.length ≤ i by omega)]
section
variable {w0 w : World} {B : DB} {p : Nat} {cs : DocS} {cl : List OT} {S : List Nat} (h : PairC w0 w B p cs cl S)
include h
def AddC (w0 w : World) (B : DB) (p : Nat) (cs : DocS) (cl : List OT) (S : List Nat) (x : OT) (e : Ending) (w' : World) : Prop :=
  ∃ S', e = .returned (.tuple #[.int .i64 (addF cs cl x).n, .int .i64 (addF cs cl x).r]) ∧ PairC w0 w' B p (addF cs cl x).s (addF cs cl x).L S' ∧ ButS S w w' ∧ ∀ k ∈ S', k ∈ S ∨ w.heap.size ≤ k
theorem addC_any {x y : OT} (hw0 : Vars w0) (hL : cl.length ≤ 256) (hx : OT.Ok x) (hxm : x.o.M = 0) (hc : x.can = y) : Calls Tryz.prog 11 #[.pointer (some ⟨p, 0, none⟩), .pointer (some ⟨B.d, 0, none⟩), opv x.o] w fun e w' => AddC w0 w B p cs cl S y e w' := by
  obtain ⟨s, A, c, L, hP, rfl, rfl, rfl⟩ := h
  rw [canO_len] at hL
  refine (add_any B p s A c L x w0 w hP hw0 hL hx hxm).mono fun e w' hA => ?_
  unfold AddPost at hA
  obtain ⟨n, r, s', A', c', L', rfl, hR, hP', hbs, hown⟩ := hA
  have hq := hR.can hP.ok hP.buf.row.ok hx
  rw [hc] at hq
  unfold AddC
  rw [hq]
  refine ⟨_, rfl, ⟨s', A', c', L', hP', rfl, rfl, rfl⟩, hbs, fun k hk => ?_⟩
  rcases blocks_mem.1 hk with h | h | h
  · exact .inl (blocks_mem.2 (.inl h))
  · exact .inl (blocks_mem.2 (.inr (.inl h)))
  · rcases hown with e | ⟨k2, e, hk2⟩
    · exact .inl (blocks_mem.2 (.inr (.inr fun n c => (own_len2 _ _ _ _ _).trans (e.symm.trans (h 0 0)))))
    · rw [h 0 0] at e
      obtain rfl := Option.some.inj e
      exact .inr hk2
theorem lenC_any : Calls Tryz.prog 13 #[.pointer (some ⟨p, 0, none⟩)] w fun e w' => e = .returned (.int .i64 cl.length) ∧ Below w.heap.size w w' := by
  obtain ⟨s, A, c, L, hP, rfl, rfl, rfl⟩ := h
  rw [canO_len]
  exact bLen_any p A c L w0 w hP.buf
theorem vecC_any : Calls Tryz.prog 14 #[.pointer (some ⟨B.d, 0, none⟩)] w fun e w' => e = .returned (.agg (vcells cs.v)) ∧ Below w.heap.size w w' := by
  obtain ⟨s, A, c, L, hP, rfl, rfl, rfl⟩ := h
  exact dVec_any B s w hP.bx.doc.1 hP.ok.v
def WaitC (cl : List OT) (w : World) (e : Ending) (w' : World) : Prop := ∃ (M : List OT) (A' : Option Addr) (c' : Nat), e = .returned (.slice A' M.length c') ∧ M.length = cl.length ∧ canO M = cl ∧ RowW w w' (.slice A' M.length c') M ∧ Below w.heap.size w w'
theorem waitC_any (hn : cl.length ≤ 100000) : Calls Tryz.prog 17 #[.pointer (some ⟨p, 0, none⟩)] w fun e w' => WaitC cl w e w' := by
  obtain ⟨s, A, c, L, hP, rfl, rfl, rfl⟩ := h
  rw [canO_len] at hn
  refine (bWaiting_any p A c L w0 w hP.buf hn).mono fun e w' hW => ?_
  unfold WaitingPost at hW
  obtain ⟨M, A', c', he, hs, hr, hb⟩ := hW
  exact ⟨M, A', c', he, by rw [canO_len]; exact hs.1, hs.can, hr, hb⟩
/-- A buffer by itself. -/
structure BufC (w0 W : World) (p : Nat) (cl : List OT) : Prop where
  has : ∃ A c L, BufAt w0 W p A c L ∧ cl = canO L
theorem copyC_any (hn : cl.length ≤ 100000) : Calls Tryz.prog 21 #[.pointer (some ⟨p, 0, none⟩)] w fun e w' => ∃ p2, e = .returned (.pointer (some ⟨p2, 0, none⟩)) ∧ BufC w w' p2 cl ∧ Below w.heap.size w w' := by
  obtain ⟨s, A, c, L, hP, rfl, rfl, rfl⟩ := h
  rw [canO_len] at hn
  refine (bCopy_any p A c L w0 w hP.buf hn).mono fun e w' hW => ?_
  unfold CopyPost at hW
  obtain ⟨p2, A2, c2, he, hb, hbl⟩ := hW
  exact ⟨p2, he, ⟨A2, c2, L, hb, rfl⟩, hbl⟩
end
theorem BufC.stay {w0 W W' : World} {p : Nat} {cl : List OT} {T : List Nat} (h : BufC w0 W p cl) (hb : ButS T W W') (hT : ∀ k ∈ T, k < w0.heap.size) : BufC w0 W' p cl := by
  obtain ⟨A, c, L, hB, e⟩ := h
  refine ⟨A, c, L, ⟨?_, ?_, hB.ap, hB.b⟩, e⟩
  · exact (hb.block p (Array.getElem?_eq_some_iff.1 hB.at_).1 (fun e => by have := hT p e; have := hB.b; omega)).trans hB.at_
  · exact hB.row.keep fun k hk hlt => hb.block k hlt (fun e => by have := hT k e; have := (owns_base hB.row.own hk).1; omega)
theorem BufC.len {w0 w : World} {p : Nat} {cl : List OT} (h : BufC w0 w p cl) : Calls Tryz.prog 13 #[.pointer (some ⟨p, 0, none⟩)] w fun e w' => e = .returned (.int .i64 cl.length) ∧ Below w.heap.size w w' := by
  obtain ⟨A, c, L, hB, rfl⟩ := h
  rw [canO_len]
  exact bLen_any p A c L w0 w hB
end Go.Proofs.YtffcpmohanhihaaGreatDoor
