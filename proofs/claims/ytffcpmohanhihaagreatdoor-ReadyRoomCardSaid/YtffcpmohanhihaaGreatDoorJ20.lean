/-
  A statement whose order Go leaves open: what only reads; two deeds that only make memory, one behind the other; a third that changes what was there; then the rest in the text's order. No condition of a law's; a tool of the walks.
  clock.Less. No condition beside 64 numbers in a vector.
  What waits: a buffer as it lies in memory; ready.New, walked. No condition.
-/
import Derived.Test.YtffcpmohanhihaaGreatDoorJ8
import Derived.Test.YtffcpmohanhihaaGreatDoorJ13
import Derived.Test.YtffcpmohanhihaaGreatDoorDocBJ
import Derived.Test.YtffcpmohanhihaaGreatDoorDelOJ
namespace Go.Proofs.YtffcpmohanhihaaGreatDoor
open Go.Sort Go.RowKit
set_option linter.unusedVariables false
set_option linter.unusedSimpArgs false
section
variable {P : Program} {Q : Exit → Act → World → Prop}
/-- A quiet operation that is no call leaves the world; a call's value is known, and it only makes memory, if it does so in every world of the class. -/
theorem gives_quiet_grow {o : Oper} {a : Act} {w0 w : World} {v : Value} (hb : Below w0.heap.size w0 w) (hp : plainOp o.op = true) (h : ∀ w2, Below w0.heap.size w0 w2 → o.quietAt P a (fun w' => ∃ p : Regrown, w' = grow (redrawn w0 p.d) p.os) w2 v) : gives P o a w (fun u w' => u = v ∧ Below w0.heap.size w0 w' ∧ Below w.heap.size w w') :=
  gives_imp (gives_of_plain hp (h w hb)) (by rintro u w' ⟨rfl, rfl⟩; exact ⟨rfl, hb, Below.refl _ _⟩)
theorem wp_region_three {id : Nat} {a0 : Act} {w0 : World} {l : List Oper} (ops' : Array Oper) (he : l.toArray = ops') (c : Nat) (hm : P.follows .mixedOrders = true) (hs : Region.noSelect ops' = true) (hB : ordOK ops' = true) (hcl : c + 2 < l.length) (hH : headOK ops' c = true) (hP : pureRest ops' (c + 2) = true) (hT : tailOK ops' (c + 3) = true)
    (hw1 : waits ops' (c + 1) c = true) (hw2 : waits ops' (c + 2) (c + 1) = true) (hw3 : waits ops' (c + 2) c = true) (R1 : Value → World → Prop) (R2 : Value → Value → World → Prop) (R : Value → World → Prop)
    (st1 : ∀ v W W', R1 v W → Below W.heap.size W W' → R1 v W') (st2 : ∀ v u W W', R2 v u W → Below W.heap.size W W' → R2 v u W')
    (h : wpQuiet P l.toArray (fun w' => ∃ p : Regrown, w' = grow (redrawn w0 p.d) p.os) (fun a => ∀ o1 o2 o3, l.toArray[c]? = some o1 → l.toArray[c + 1]? = some o2 → l.toArray[c + 2]? = some o3 → (o1.guard = none ∧ o2.guard = none ∧ o3.guard = none) ∧
      (∀ w, Below w0.heap.size w0 w → gives P o1 a w (fun v w' => Below w.heap.size w w' ∧ R1 v w')) ∧
      (∀ v w, Below w0.heap.size w0 w → R1 v w → gives P o2 (a.put o1.dst v) w (fun u w' => Below w.heap.size w w' ∧ R2 v u w')) ∧
      (∀ v u w, Below w0.heap.size w0 w → R2 v u w → gives P o3 ((a.put o1.dst v).put o2.dst u) w (fun x w' => R x w')) ∧
      ∀ v u x w, R x w → wpList P l.toArray Q (l.drop (c + 3)) (((a.put o1.dst v).put o2.dst u).put o3.dst x) w) (l.take c) a0) : (Code.region id l.toArray true).wp P Q a0 w0 := by
  subst he
  have hsel : ∀ (i : Nat) o, l.toArray[i]? = some o → ∀ cs b, o.op ≠ .select cs b := fun i o ho cs b => Region.noSelect_spec hs i o cs b ho
  have hsz : l.toArray.size = l.length := by simp
  obtain ⟨val, _, hval, hE⟩ := quiet_values (ops := l.toArray) (a0 := a0) (l.take c) 0 (fun _ => undef) (fun j hj => by
    have hj' : j < c := by simp at hj; omega
    simp [List.getElem?_take, hj']) h
  have hl0 : 0 + (l.take c).length = c := by simp; omega
  rw [hl0] at hE hval
  obtain ⟨o1, ho1⟩ : ∃ o, l.toArray[c]? = some o := ⟨_, Array.getElem?_eq_getElem (by rw [hsz]; omega)⟩
  obtain ⟨o2, ho2⟩ : ∃ o, l.toArray[c + 1]? = some o := ⟨_, Array.getElem?_eq_getElem (by rw [hsz]; omega)⟩
  obtain ⟨o3, ho3⟩ : ∃ o, l.toArray[c + 2]? = some o := ⟨_, Array.getElem?_eq_getElem (by rw [hsz]; omega)⟩
  obtain ⟨⟨hn1, hn2, hn3⟩, hg1, hg2, hg3, hend⟩ := hE o1 o2 o3 ho1 ho2 ho3
  have hd1 : dstOf l.toArray c = o1.dst := by simp [dstOf, ho1]
  have hd2 : dstOf l.toArray (c + 1) = o2.dst := by simp [dstOf, ho2]
  have hd3 : dstOf l.toArray (c + 2) = o3.dst := by simp [dstOf, ho3]
  have wt : ∀ o : Oper, o.guard = none → ∀ y, Region.wanted o y = true := fun o h y => by
    obtain ⟨d, p, ty', ps, af, g⟩ := o
    subst h; rfl
  have hq1 : ∃ p : Regrown, ({ w0 with drawn := w0.drawn + 1 } : World) = grow (redrawn w0 p.d) p.os := later_regrown.2 (Below.refl _ _).drew
  refine wp_region_env (c + 3) hm hs hB (by omega) hT (fun θ L w => (∀ i, i < c → L i = true → θ i = val i) ∧ (L (c + 2) = false → Below w0.heap.size w0 w ∧ (L c = true → R1 (θ c) w) ∧ (L (c + 1) = true → R2 (θ c) (θ (c + 1)) w)) ∧ (L (c + 1) = true → L c = true) ∧ (L (c + 2) = true → R (θ (c + 2)) w ∧ L (c + 1) = true ∧ ∀ i, i < c → waits l.toArray (c + 2) i = true → L i = true))
    ⟨fun _ => undef, (fun i _ h => by cases h), (fun _ => ⟨(Below.refl _ _).drew, (fun h => by cases h), (fun h => by cases h)⟩), (fun h => by cases h), (fun h => by cases h)⟩ ?_ ?_
  · intro i o hi ho θ L w hc hLi hdep hlat
    obtain ⟨h1, h2, h3, h4⟩ := hc
    rcases (show i < c ∨ i = c ∨ i = c + 1 ∨ i = c + 2 by omega) with hic | rfl | rfl | rfl
    · have hl := seq_looks hB ho (θ := θ) (θ' := val) (fun j hj hw => h1 j (by omega) (hdep j hw)) a0
      obtain ⟨e1, e2⟩ := looks_congr (hsel i o ho) hl
      have hv := hval i o (Nat.zero_le _) hic ho
      have n0 : c ≠ i := by omega
      have n1 : c + 1 ≠ i := by omega
      have n2 : c + 2 ≠ i := by omega
      have fin : ∀ v w', v = val i → (L (c + 2) = false → Below w0.heap.size w0 w' ∧ (L c = true → R1 (θ c) w') ∧ (L (c + 1) = true → R2 (θ c) (θ (c + 1)) w')) → (L (c + 2) = true → w' = w) → (∀ j, j < c → updL L i j = true → updV θ i v j = val j) ∧ (updL L i (c + 2) = false → Below w0.heap.size w0 w' ∧ (updL L i c = true → R1 (updV θ i v c) w') ∧ (updL L i (c + 1) = true → R2 (updV θ i v c) (updV θ i v (c + 1)) w')) ∧ (updL L i (c + 1) = true → updL L i c = true) ∧ (updL L i (c + 2) = true → R (updV θ i v (c + 2)) w' ∧ updL L i (c + 1) = true ∧ ∀ j, j < c → waits l.toArray (c + 2) j = true → updL L i j = true) := fun v w' hv hb hww => by
        rw [updL_ne _ n0, updL_ne _ n1, updL_ne _ n2, updV_ne _ _ n0, updV_ne _ _ n1, updV_ne _ _ n2]
        refine ⟨fun j hj hl => ?_, hb, h3, fun hl => ?_⟩
        · by_cases hji : j = i
          · subst hji; rw [updV_same]; exact hv
          · rw [updV_ne _ _ hji]; rw [updL_ne _ hji] at hl; exact h1 j hj hl
        · rw [hww hl]
          refine ⟨(h4 hl).1, (h4 hl).2.1, fun j hj hjw => ?_⟩
          by_cases hji : j = i
          · subst hji; exact updL_same ..
          · rw [updL_ne _ hji]; exact (h4 hl).2.2 j hj hjw
      rw [e2]
      split
      · rename_i hwt
        rw [if_pos hwt] at hv
        rw [gives_eq e1]
        cases hLc : L (c + 2) with
        | false =>
          obtain ⟨hb, r1, r2⟩ := h2 hLc
          -- the value is the same in every world of the class; here also: nothing old is lost
          have hcl2 : ∀ w2, Below w0.heap.size w0 w2 → o.quietAt P (seqTo l.toArray val a0 i) (fun w' => ∃ p : Regrown, w' = grow (redrawn w0 p.d) p.os) w2 (val i) := fun w2 h2 => hv w2 (later_regrown.2 h2)
          have hpl : plainOp o.op = true := by
            have := List.all_eq_true.1 hH i (List.mem_range.2 hic)
            unfold plainO at this
            rwa [ho] at this
          refine gives_imp (gives_quiet_grow hb hpl hcl2) ?_
          rintro u w' ⟨rfl, hw', hgw⟩
          exact fin _ _ rfl (fun _ => ⟨hw', fun h => st1 _ _ _ (r1 h) hgw, fun h => st2 _ _ _ _ (r2 h) hgw⟩) (fun h => by rw [hLc] at h; cases h)
        | true =>
          have hnw : waits l.toArray (c + 2) i = false := by
            cases hq : waits l.toArray (c + 2) i with
            | false => rfl
            | true => rw [(h4 hLc).2.2 i hic hq] at hLi; cases hLi
          have hpu : pureOp o.op = true := by
            have := List.all_eq_true.1 hP i (List.mem_range.2 (by omega))
            rw [hnw, ho] at this
            simpa using this
          refine gives_imp (pure_gives hpu (hv _ hq1) w) ?_
          rintro u w' ⟨rfl, rfl⟩
          exact fin _ _ rfl (fun h => by rw [hLc] at h; cases h) (fun _ => rfl)
      · rename_i hwt
        rw [if_neg hwt] at hv
        exact fin _ _ hv.symm h2 (fun _ => rfl)
    · obtain rfl : o = o1 := Option.some.inj (ho.symm.trans ho1)
      have hl := seq_looks hB ho (θ := θ) (θ' := val) (fun j hj hw => h1 j hj (hdep j hw)) a0
      obtain ⟨e1, e2⟩ := looks_congr (hsel _ o ho) hl
      have l1 : L (i + 1) = false := hlat _ hw1
      have l2 : L (i + 2) = false := hlat _ hw3
      obtain ⟨hb, _, _⟩ := h2 l2
      rw [e2, if_pos (wt _ hn1 _), gives_eq e1]
      refine gives_imp (hg1 w hb) ?_
      rintro v w' ⟨hgw, hR⟩
      rw [updL_ne _ (show i + 1 ≠ i by omega), updL_ne _ (show i + 2 ≠ i by omega), updV_ne _ _ (show i + 1 ≠ i by omega), updV_ne _ _ (show i + 2 ≠ i by omega), updL_same, updV_same]
      refine ⟨fun j hj hl => ?_, fun _ => ⟨hb.trans (hgw.mono hb.size), fun _ => hR, fun h => by rw [l1] at h; cases h⟩, fun _ => rfl, fun h => by rw [l2] at h; cases h⟩
      rw [updV_ne _ _ (by omega)]; rw [updL_ne _ (by omega)] at hl; exact h1 j hj hl
    · obtain rfl : o = o2 := Option.some.inj (ho.symm.trans ho2)
      have hLc := hdep c hw1
      have l2 : L (c + 2) = false := hlat _ hw2
      obtain ⟨hb, r1, _⟩ := h2 l2
      have hl := seq_looks hB ho (θ := θ) (θ' := updV val c (θ c)) (fun j hj hw => by
        by_cases hjc : j = c
        · subst hjc; rw [updV_same]
        · rw [updV_ne _ _ hjc]; exact h1 j (by omega) (hdep j hw)) a0
      obtain ⟨e1, e2⟩ := looks_congr (hsel _ o ho) hl
      have e3 : seqTo l.toArray (updV val c (θ c)) a0 (c + 1) = (seqTo l.toArray val a0 c).put o1.dst (θ c) := by
        show (seqTo l.toArray (updV val c (θ c)) a0 c).put (dstOf l.toArray c) (updV val c (θ c) c) = _
        rw [seqTo_congr _ val a0 c (fun j hj => updV_ne _ _ (by omega)), updV_same, hd1]
      rw [e3] at e1
      rw [if_pos (wt _ hn2 _), gives_eq e1]
      refine gives_imp (hg2 _ w hb (r1 hLc)) ?_
      rintro v w' ⟨hgw, hR⟩
      rw [updL_ne _ (show c ≠ c + 1 by omega), updL_ne _ (show c + 2 ≠ c + 1 by omega), updV_ne _ _ (show c ≠ c + 1 by omega), updV_ne _ _ (show c + 2 ≠ c + 1 by omega), updL_same, updV_same]
      refine ⟨fun j hj hl => ?_, fun _ => ⟨hb.trans (hgw.mono hb.size), fun h => st1 _ _ _ (r1 h) hgw, fun _ => hR⟩, fun _ => hLc, fun h => by rw [l2] at h; cases h⟩
      rw [updV_ne _ _ (by omega)]; rw [updL_ne _ (by omega)] at hl; exact h1 j hj hl
    · obtain rfl : o = o3 := Option.some.inj (ho.symm.trans ho3)
      have hLc := hdep c hw3
      have hLd := hdep (c + 1) hw2
      obtain ⟨hb, _, r2⟩ := h2 hLi
      have hl := seq_looks hB ho (θ := θ) (θ' := updV (updV val c (θ c)) (c + 1) (θ (c + 1))) (fun j hj hw => by
        rcases (show j < c ∨ j = c ∨ j = c + 1 by omega) with hjc | rfl | rfl
        · rw [updV_ne _ _ (by omega), updV_ne _ _ (by omega)]; exact h1 j hjc (hdep j hw)
        · rw [updV_ne _ _ (by omega), updV_same]
        · rw [updV_same]) a0
      obtain ⟨e1, e2⟩ := looks_congr (hsel _ o ho) hl
      have e3 : seqTo l.toArray (updV (updV val c (θ c)) (c + 1) (θ (c + 1))) a0 (c + 2) = ((seqTo l.toArray val a0 c).put o1.dst (θ c)).put o2.dst (θ (c + 1)) := by
        show ((seqTo l.toArray _ a0 c).put (dstOf l.toArray c) (updV (updV val c (θ c)) (c + 1) (θ (c + 1)) c)).put (dstOf l.toArray (c + 1)) (updV (updV val c (θ c)) (c + 1) (θ (c + 1)) (c + 1)) = _
        rw [seqTo_congr _ val a0 c (fun j hj => by rw [updV_ne _ _ (by omega), updV_ne _ _ (by omega)]), updV_same, updV_ne _ _ (show c ≠ c + 1 by omega), updV_same, hd1, hd2]
      rw [e3] at e1
      rw [if_pos (wt _ hn3 _), gives_eq e1]
      refine gives_imp (hg3 _ _ w hb (r2 hLd)) ?_
      intro v w' hR
      rw [updL_ne _ (show c ≠ c + 2 by omega), updL_ne _ (show c + 1 ≠ c + 2 by omega), updV_ne _ _ (show c ≠ c + 2 by omega), updV_ne _ _ (show c + 1 ≠ c + 2 by omega), updL_same, updV_same]
      refine ⟨fun j hj hl => ?_, (fun h => by cases h), fun _ => hLc, fun _ => ⟨hR, hLd, fun j hj hjw => ?_⟩⟩
      · rw [updV_ne _ _ (by omega)]; rw [updL_ne _ (by omega)] at hl; exact h1 j hj hl
      · rw [updL_ne _ (by omega)]; exact hdep j hjw
  · intro θ L w hc hL
    obtain ⟨h1, _, _, h4⟩ := hc
    have hall : ∀ j, j < c + 3 → L j = true := fun j hj => by rw [hL]; simpa using hj
    have e1 : seqTo l.toArray θ a0 (c + 3) = (((seqTo l.toArray val a0 c).put o1.dst (θ c)).put o2.dst (θ (c + 1))).put o3.dst (θ (c + 2)) := by
      show (((seqTo l.toArray θ a0 c).put (dstOf l.toArray c) (θ c)).put (dstOf l.toArray (c + 1)) (θ (c + 1))).put (dstOf l.toArray (c + 2)) (θ (c + 2)) = _
      rw [seqTo_congr θ val a0 c (fun j hj => h1 j hj (hall j (by omega))), hd1, hd2, hd3]
    rw [e1]
    exact hend _ _ _ w (h4 (hall _ (by omega))).1
end
end Go.Proofs.YtffcpmohanhihaaGreatDoor
namespace Go.Proofs.YtffcpmohanhihaaGreatDoor
open Go.RowKit Go.Sort
set_option linter.unusedVariables false
set_option linter.unusedSimpArgs false
def lessB (r n r' n' : Int) : Bool := decide (n < n' ∨ n = n' ∧ r < r')
set_option maxHeartbeats 400000 in
theorem Less_any (r n r' n' : Int) (w : World) :
    Calls Tryz.prog 48 #[.agg #[.int .i64 r, .int .i64 n], .agg #[.int .i64 r', .int .i64 n']] w fun e w' => e = .returned (.bool (lessB r n r' n')) ∧ Below w.heap.size w w' := by
  by_cases h1 : n < n'
  · go_enter Tryz.func48, Tryz.ntmps48
    go_wp2
    go_ret
    exact ⟨ret_bool (by unfold lessB; simp [h1]), ((Below.refl _ _).alloc (Nat.le_refl _) _).alloc (by simp) _⟩
  · by_cases h2 : n = n'
    · subst h2
      go_enter Tryz.func48, Tryz.ntmps48
      go_wp2
      go_ret
      exact ⟨ret_bool (by unfold lessB; simp), ((Below.refl _ _).alloc (Nat.le_refl _) _).alloc (by simp) _⟩
    · have h1' : n' ≤ n := by omega
      have h3 : (n == n') = false := by simpa using h2
      go_enter Tryz.func48, Tryz.ntmps48
      go_wp2
      go_ret
      exact ⟨ret_bool (by unfold lessB; simp [h1, h2]), ((Below.refl _ _).alloc (Nat.le_refl _) _).alloc (by simp) _⟩
end Go.Proofs.YtffcpmohanhihaaGreatDoor
namespace Go.Proofs.YtffcpmohanhihaaGreatDoor
open Go.RowKit Go.Sort
set_option linter.unusedVariables false
set_option linter.unusedSimpArgs false
set_option linter.unusedSectionVars false
def bufO (v : Value) : Obj := .cells #[v] 66
def lessI (a b : OT) : Bool := lessB a.o.R a.o.N b.o.R b.o.N
def sameI (a b : OT) : Bool := a.o.R == b.o.R && a.o.N == b.o.N
/-- Where an operation's place is among those that wait. -/
def posI (x : OT) (L : List OT) : Nat := (L.takeWhile (fun z => lessI z x)).length
theorem posI_le (x : OT) (L : List OT) : posI x L ≤ L.length := (List.takeWhile_sublist _).length_le
theorem posI_eq {x : OT} : ∀ {L : List OT} {m : Nat}, m ≤ L.length → (∀ (i : Nat) z, i < m → L[i]? = some z → lessI z x = true) → (∀ z, L[m]? = some z → lessI z x = false) → posI x L = m
  | [], m, h, _, _ => by obtain rfl : m = 0 := by simpa using h
                         rfl
  | a :: L, 0, _, _, h2 => by
    unfold posI
    rw [List.takeWhile_cons, h2 a rfl]
    rfl
  | a :: L, m + 1, h, h1, h2 => by
    unfold posI
    rw [List.takeWhile_cons, h1 0 a (by omega) rfl]
    show (L.takeWhile (fun z => lessI z x)).length + 1 = m + 1
    rw [show (L.takeWhile (fun z => lessI z x)).length = m from posI_eq (by simpa using h) (fun i z hi hz => h1 (i + 1) z (by omega) (by simpa using hz)) (fun z hz => h2 z (by simpa using hz))]
def twiceB (x : OT) (L : List OT) : Bool := match L[posI x L]? with
  | some z => sameI z x
  | none => false
def Waited (x : OT) (L : List OT) (r : Int) (L' : List OT) : Prop :=
  (twiceB x L = true ∧ r = 5 ∧ L' = L) ∨ (twiceB x L = false ∧ L.length = 256 ∧ r = 10 ∧ L' = L) ∨ (twiceB x L = false ∧ L.length ≠ 256 ∧ r = 0 ∧ ∃ y, OT.Ok y ∧ OT.Same x y ∧ L' = insO (posI x L) y L)
/-- A buffer in memory: its own block, its row. -/
structure BufAt (w0 W : World) (p : Nat) (A : Option Addr) (c : Nat) (L : List OT) : Prop where
  at_ : W.heap[p]? = some (bufO (.slice A L.length c))
  row : RowW w0 W (.slice A L.length c) L
  ap : (Value.slice A L.length c).ownBlock ≠ some p
  b : w0.heap.size ≤ p
def ownL (v : Value) : List Nat := v.ownBlock.toList
set_option maxRecDepth 100000 in
theorem bNew_any (w : World) : Calls Tryz.prog 9 #[] w fun e w' => ∃ p, e = .returned (.pointer (some ⟨p, 0, none⟩)) ∧ Boxes w w' [(p, bufO (.slice none 0 0))] := by
  go_enter Tryz.func9, Tryz.ntmps9
  go_wp2
  go_ret
  exact ⟨_, rfl, (Boxes.start w).alloc _⟩
theorem buf_new {w0 w w' : World} {p : Nat} (h : Boxes w w' [(p, bufO (.slice none 0 0))]) (hw : w0.heap.size ≤ w.heap.size) : BufAt w0 w' p none 0 [] := ⟨h.at_ 0 rfl, RowW.nil _ _, (fun e => by cases e), Nat.le_trans hw (h.rows 0 _ rfl).1⟩
end Go.Proofs.YtffcpmohanhihaaGreatDoor
