/-
  Maps whose keys are names: what a name is as a key. No condition.
  A statement whose order Go leaves open: what only reads (calls among it, whose values are known), one deed, behind it the rest in the text's order; what the deed waits not for reads no memory. No condition of a law's; a tool of the walks.
  Documents as they lie in memory: one that has the root alone. What an operation that may be says of its numbers. No condition.
  doc.New, walked; Vec, Time; the greatest time of what was seen. No condition.
-/
import Derived.Test.YtffcpmohanhihaaGreatDoorJ7
import Derived.DeepKeys4
import Derived.Test.YtffcpmohanhihaaGreatDoorRegBJ
import Derived.Test.YtffcpmohanhihaaGreatDoorJ18
import Derived.Test.YtffcpmohanhihaaGreatDoorJ17
import Derived.Test.YtffcpmohanhihaaGreatDoorJ13
import Derived.Test.YtffcpmohanhihaaGreatDoorCkWJ
import Derived.Test.YtffcpmohanhihaaGreatDoorJ14
namespace Go.Proofs.YtffcpmohanhihaaGreatDoor
open Go.RowKit
set_option linter.unusedVariables false
set_option linter.unusedSimpArgs false
def idv (k : IDk) : Value := .agg #[.int .i64 k.1, .int .i64 k.2]
/-- Numbers that a name may hold. -/
def IdOk (k : IDk) : Prop := (-9223372036854775808 ≤ k.1 ∧ k.1 ≤ 9223372036854775807) ∧ (-9223372036854775808 ≤ k.2 ∧ k.2 ≤ 9223372036854775807)
theorem zID_ok : IdOk zID := ⟨⟨by decide, by decide⟩, ⟨by decide, by decide⟩⟩
theorem laidOutK : laidOutB Tryz.prog = true := by kernel_rfl
theorem id_law : Go.WideMaps.KeyLaw Tryz.prog 31 :=
  deep_law_laid laidOutK (m := Tryz.prog.types.size + 1) (of_decide_eq_true (by kernel_rfl)) (of_decide_eq_true (by kernel_rfl)) (by kernel_rfl) (by kernel_rfl)
theorem lit_wf {n : Int} (h : -9223372036854775808 ≤ n ∧ n ≤ 9223372036854775807) : (Lit.int .i64 n).wf = true := by
  unfold Lit.wf
  have h1 : IntKind.i64.min = -9223372036854775808 := by decide
  have h2 : IntKind.i64.max = 9223372036854775807 := by decide
  simp only [h1, h2, Bool.and_eq_true, decide_eq_true_eq]
  exact h
theorem id_reads (k : IDk) (hk : IdOk k) : ∃ l, keyOf Tryz.prog 31 (idv k) = some l := by
  obtain ⟨m, hm⟩ : ∃ m, Tryz.prog.types.size = m + 1 := ⟨Tryz.prog.types.size - 1, by have : 0 < Tryz.prog.types.size := of_decide_eq_true (by kernel_rfl); omega⟩
  have h1 := lit_wf hk.1
  have h2 := lit_wf hk.2
  have hc : Tryz.prog.cellsOf 31 = 2 := by kernel_rfl
  have hi : Tryz.prog.cellsOf 3 = 1 := by kernel_rfl
  have hj : Tryz.prog.cellsOf 2 = 1 := by kernel_rfl
  have hkt : Tryz.prog.keyType 31 = true := by kernel_rfl
  have hf : (idv k).formed Tryz.prog 31 = true := by
    unfold Value.formed idv
    simp only [Tryz.underlying31, hc]
    rfl
  have hl : ∃ l, Tryz.prog.keyLits (Tryz.prog.types.size + 1) 31 (idv k).cells.toList = some l := by
    rw [hm]
    unfold Program.keyLits
    simp only [Tryz.underlying31]
    refine ⟨[Lit.int .i64 k.1, Lit.int .i64 k.2], ?_⟩
    have g1 : ∀ n, (Lit.int .i64 n).wf = true → Tryz.prog.keyLits (m + 1) 3 [Value.int .i64 n] = some [Lit.int .i64 n] := fun n hn => by
      unfold Program.keyLits
      simp only [Tryz.underlying3, hn, and_self, if_true]
    have g2 : ∀ n, (Lit.int .i64 n).wf = true → Tryz.prog.keyLits (m + 1) 2 [Value.int .i64 n] = some [Lit.int .i64 n] := fun n hn => by
      unfold Program.keyLits
      simp only [Tryz.underlying2, hn, and_self, if_true]
    simp [idv, Value.cells, hc, hi, hj, g1, g2, h1, h2]
  obtain ⟨l, hl⟩ := hl
  unfold keyOf
  rw [Tryz.underlying31]
  simp only [hkt, hf, hl, Bool.and_self, if_true, Option.map_some]
  exact ⟨_, rfl⟩
theorem id_key : KeyF Tryz.prog 31 idv IdOk :=
  ⟨Go.Maps.Keyed.of_law id_law, id_reads, fun a b h => by
    injection h with h
    have h1 := congrArg (fun a => a[0]?) h
    have h2 := congrArg (fun a => a[1]?) h
    simp at h1 h2
    exact Prod.ext h1 h2⟩
end Go.Proofs.YtffcpmohanhihaaGreatDoor
namespace Go.Proofs.YtffcpmohanhihaaGreatDoor
open Go.Sort Go.RowKit
set_option linter.unusedVariables false
set_option linter.unusedSimpArgs false
section
variable {P : Program} {Q : Exit → Act → World → Prop}
theorem gives_of_quiet {o : Oper} {a : Act} {C : World → Prop} {w : World} {v : Value} (hC : C w) (h : o.quietAt P a C w v) : gives P o a w (fun u w' => u = v ∧ C w') := by
  unfold Oper.quietAt at h
  unfold gives
  generalize hr : (execOp a.eval o).run P w = r at *
  cases r with
  | halt x w' => exact h
  | ok nx w' =>
    cases nx with
    | value u => exact ⟨h.2, h.1 ▸ hC⟩
    | skip => exact ⟨h.2.symm, h.1 ▸ hC⟩
    | enter f args =>
      obtain ⟨rfl, hc⟩ := h
      exact hc.mono fun e w'' ⟨he, hw⟩ => ⟨v, he, rfl, hw⟩
    | _ => exact h.elim
/-- It reads no memory. -/
def pureOp : Op → Bool
  | .move _ | .extract _ _ => true
  | _ => false
theorem pure_gives {o : Oper} {a : Act} {C : World → Prop} {w : World} {v : Value} (hp : pureOp o.op = true) (h : o.quietAt P a C w v) (w' : World) : gives P o a w' (fun u w'' => u = v ∧ w'' = w') := by
  unfold Oper.quietAt at h
  unfold gives
  obtain ⟨d, op, ty, ps, af, g⟩ := o
  cases op with
  | move x =>
    unfold execOp at h ⊢
    simp only [Sem.run_pure] at h ⊢
    first | exact ⟨h.2, rfl⟩ | exact ⟨h.2, trivial⟩
  | extract x i =>
    unfold execOp at h ⊢
    simp only [Sem.run_bind] at h ⊢
    cases hq : a.eval x with
    | tuple vs =>
      simp only [hq] at h ⊢
      cases hi : vs[i]? with
      | none => simp [Instr.extract, hi, Result.andThen, stuck, Sem.run_pure] at h ⊢ <;> exact h
      | some u =>
        simp [Instr.extract, hi, Result.andThen, Sem.run_pure] at h ⊢
        exact h.2
    | _ => simp [Instr.extract, hq, Result.andThen, stuck] at h ⊢ <;> exact h
  | _ => simp [pureOp] at hp
def pureRest (ops : Array Oper) (c : Nat) : Bool := (List.range c).all fun i => waits ops c i || (match ops[i]? with
  | some o => pureOp o.op
  | none => false)
theorem wp_region_deed {id : Nat} {a0 : Act} {w0 : World} {l : List Oper} (ops' : Array Oper) (he : l.toArray = ops') (c : Nat) (hm : P.follows .mixedOrders = true) (hs : Region.noSelect ops' = true) (hB : ordOK ops' = true) (hcl : c < l.length) (hP : pureRest ops' c = true) (hT : tailOK ops' (c + 1) = true) (R : Value → World → Prop)
    (h : wpQuiet P l.toArray (fun w' => ∃ p : Regrown, w' = grow (redrawn w0 p.d) p.os) (fun a => ∀ o, l.toArray[c]? = some o → Region.wanted o (yielded l.toArray a.tmps) = true ∧ (∀ w, Below w0.heap.size w0 w → gives P o a w R) ∧
      ∀ v w, R v w → wpList P l.toArray Q (l.drop (c + 1)) (a.put o.dst v) w) (l.take c) a0) : (Code.region id l.toArray true).wp P Q a0 w0 := by
  subst he
  have hsel : ∀ (i : Nat) o, l.toArray[i]? = some o → ∀ cs b, o.op ≠ .select cs b := fun i o ho cs b => Region.noSelect_spec hs i o cs b ho
  have hsz : l.toArray.size = l.length := by simp
  obtain ⟨val, _, hval, hE⟩ := quiet_values (ops := l.toArray) (a0 := a0) (l.take c) 0 (fun _ => undef) (fun j hj => by
    have hj' : j < c := by simp at hj; omega
    simp [List.getElem?_take, hj']) h
  have hl0 : 0 + (l.take c).length = c := by simp; omega
  rw [hl0] at hE hval
  obtain ⟨oc, hoc⟩ : ∃ oc, l.toArray[c]? = some oc := ⟨_, Array.getElem?_eq_getElem (by rw [hsz]; exact hcl)⟩
  obtain ⟨hwc, hgc, hqc⟩ := hE oc hoc
  have hdst : dstOf l.toArray c = oc.dst := by simp [dstOf, hoc]
  have hw1 : ∃ p : Regrown, ({ w0 with drawn := w0.drawn + 1 } : World) = grow (redrawn w0 p.d) p.os := later_regrown.2 (Below.refl _ _).drew
  refine wp_region_env (c + 1) hm hs hB (by omega) hT (fun θ L w => (∀ i, i < c → L i = true → θ i = val i) ∧ (L c = false → Below w0.heap.size w0 w) ∧ (L c = true → R (θ c) w ∧ ∀ i, i < c → waits l.toArray c i = true → L i = true)) ⟨fun _ => undef, (fun i _ h => by cases h), (fun _ => (Below.refl _ _).drew), (fun h => by cases h)⟩ ?_ ?_
  · intro i o hi ho θ L w hc hLi hdep hlat
    obtain ⟨h1, h2, h3⟩ := hc
    rcases Nat.lt_or_ge i c with hic | hic
    · have hl := seq_looks hB ho (θ := θ) (θ' := val) (fun j hj hw => h1 j (by omega) (hdep j hw)) a0
      obtain ⟨e1, e2⟩ := looks_congr (hsel i o ho) hl
      have hv := hval i o (Nat.zero_le _) hic ho
      have hne : c ≠ i := by omega
      have fin : ∀ v w', v = val i → (L c = false → Below w0.heap.size w0 w') → (L c = true → w' = w) → (∀ j, j < c → updL L i j = true → updV θ i v j = val j) ∧ (updL L i c = false → Below w0.heap.size w0 w') ∧ (updL L i c = true → R (updV θ i v c) w' ∧ ∀ j, j < c → waits l.toArray c j = true → updL L i j = true) := fun v w' hv hb hww => by
        rw [updL_ne _ hne, updV_ne _ _ hne]
        refine ⟨fun j hj hl => ?_, hb, fun hl => ?_⟩
        · by_cases hji : j = i
          · subst hji; rw [updV_same]; exact hv
          · rw [updV_ne _ _ hji]; rw [updL_ne _ hji] at hl; exact h1 j hj hl
        · rw [hww hl]
          refine ⟨(h3 hl).1, fun j hj hjw => ?_⟩
          by_cases hji : j = i
          · subst hji; exact updL_same ..
          · rw [updL_ne _ hji]; exact (h3 hl).2 j hj hjw
      rw [e2]
      split
      · rename_i hwt
        rw [if_pos hwt] at hv
        rw [gives_eq e1]
        cases hLc : L c with
        | false =>
          refine gives_imp (gives_of_quiet (later_regrown.2 (h2 hLc)) (hv w (later_regrown.2 (h2 hLc)))) ?_
          rintro u w' ⟨rfl, hw'⟩
          exact fin _ _ rfl (fun _ => later_regrown.1 hw') (fun h => by rw [hLc] at h; cases h)
        | true =>
          have hnw : waits l.toArray c i = false := by
            cases hq : waits l.toArray c i with
            | false => rfl
            | true => rw [(h3 hLc).2 i hic hq] at hLi; cases hLi
          have hpu : pureOp o.op = true := by
            have := List.all_eq_true.1 hP i (List.mem_range.2 hic)
            rw [hnw, ho] at this
            simpa using this
          refine gives_imp (pure_gives hpu (hv _ hw1) w) ?_
          rintro u w' ⟨rfl, rfl⟩
          exact fin _ _ rfl (fun h => by rw [hLc] at h; cases h) (fun _ => rfl)
      · rename_i hwt
        rw [if_neg hwt] at hv
        exact fin _ _ hv.symm h2 (fun _ => rfl)
    · obtain rfl : i = c := by omega
      obtain rfl : o = oc := Option.some.inj (ho.symm.trans hoc)
      have hl := seq_looks hB ho (θ := θ) (θ' := val) (fun j hj hw => h1 j hj (hdep j hw)) a0
      obtain ⟨e1, e2⟩ := looks_congr (hsel i o ho) hl
      rw [e2, if_pos hwc, gives_eq e1]
      refine gives_imp (hgc w (h2 hLi)) ?_
      intro u w' hR
      refine ⟨fun j hj hl => ?_, fun hl => ?_, fun hl => ⟨by rw [updV_same]; exact hR, fun j hj hjw => ?_⟩⟩
      · rw [updV_ne _ _ (by omega)]; rw [updL_ne _ (by omega)] at hl; exact h1 j hj hl
      · rw [updL_same] at hl; cases hl
      · rw [updL_ne _ (by omega)]; exact hdep j hjw
  · intro θ L w hc hL
    obtain ⟨h1, _, h3⟩ := hc
    have hall : ∀ j, j < c + 1 → L j = true := fun j hj => by rw [hL]; simpa using hj
    have e1 : seqTo l.toArray θ a0 (c + 1) = (seqTo l.toArray val a0 c).put oc.dst (θ c) := by
      simp only [seqTo, hdst, seqTo_congr θ val a0 c (fun j hj => h1 j hj (hall j (by omega)))]
    rw [e1]
    exact hqc (θ c) w (h3 (hall c (by omega))).1
end
end Go.Proofs.YtffcpmohanhihaaGreatDoor
namespace Go.Proofs.YtffcpmohanhihaaGreatDoor
open Go.RowKit
set_option linter.unusedVariables false
set_option linter.unusedSimpArgs false
/-- Operations by their names. -/
abbrev Ods := List (IDk × OT)
def opsO (l : Ods) : Obj := mapO idv OT.v l
def ptrv (x : Nat) : Value := .pointer (some ⟨x, 0, none⟩)
/-- Objects by their names: where they lie. -/
def objsO (l : List (IDk × Nat)) : Obj := mapO idv ptrv l
def ptrn : Option Nat → Value
  | some x => .pointer (some ⟨x, 0, none⟩)
  | none => .pointer none
def objO (deep : Int) (m l : Option Nat) : Obj := .cells #[.int .i64 deep, ptrn m, ptrn l] 96
def docC (v : List Int) (t : Int) (po pj : Nat) : Array Value := vcells v ++ #[.int .i64 t, .map (some po), .map (some pj)]
def docO (v : List Int) (t : Int) (po pj : Nat) : Obj := .cells (docC v t po pj) 72
theorem docC_size {v : List Int} (h : v.length = 64) (t : Int) (po pj : Nat) : (docC v t po pj).size = 67 := by
  unfold docC; rw [Array.size_append, vcells_size, h]; rfl
theorem doc_info {v : List Int} (h : v.length = 64) (t : Int) (po pj : Nat) : (Tryz.prog.info? 72).map (·.size) = some (docC v t po pj).size := by rw [docC_size h]; kernel_rfl
theorem docC_vec {v : List Int} (h : v.length = 64) (t : Int) (po pj : Nat) : ∀ (j : Nat) u, (vcells v)[j]? = some u → (docC v t po pj)[0 + j]? = some u := fun j u hu => by
  unfold docC
  rw [Nat.zero_add, Array.getElem?_append_left (Array.getElem?_eq_some_iff.1 hu).1]
  exact hu
theorem docC_64 {v : List Int} (h : v.length = 64) (t : Int) (po pj : Nat) : (docC v t po pj)[64]? = some (.int .i64 t) := by
  unfold docC; rw [Array.getElem?_append_right (by rw [vcells_size, h]; decide), vcells_size, h]; rfl
theorem docC_65 {v : List Int} (h : v.length = 64) (t : Int) (po pj : Nat) : (docC v t po pj)[65]? = some (.map (some po)) := by
  unfold docC; rw [Array.getElem?_append_right (by rw [vcells_size, h]; decide), vcells_size, h]; rfl
theorem docC_66 {v : List Int} (h : v.length = 64) (t : Int) (po pj : Nat) : (docC v t po pj)[66]? = some (.map (some pj)) := by
  unfold docC; rw [Array.getElem?_append_right (by rw [vcells_size, h]; decide), vcells_size, h]; rfl
/-- The blocks of a document that has the root alone. -/
structure DB where
  d : Nat
  po : Nat
  pj : Nat
  x : Nat
  m : Nat
  b : Nat
structure DocS where
  v : List Int
  t : Int
  l : Ods
  la : Wd
def docBoxes (B : DB) (s : DocS) : List (Nat × Obj) := [(B.po, opsO s.l), (B.pj, objsO [(zID, B.x)]), (B.b, wordsO s.la), (B.m, headO B.b), (B.x, objO 1 (some B.m) none), (B.d, docO s.v s.t B.po B.pj)]
structure DocOk (s : DocS) : Prop where
  v : s.v.length = 64
  vr : ∀ k, k < 64 → 0 ≤ vat s.v k ∧ vat s.v k ≤ 60
  t : -9223372036854775808 ≤ s.t ∧ s.t ≤ 9223372036854775807
  keys : KeysIn IdOk s.l
  ok : ∀ p ∈ s.l, OT.Ok p.2
  la : WdOk s.la
structure DocAt (B : DB) (s : DocS) (W : World) : Prop where
  d : W.heap[B.d]? = some (docO s.v s.t B.po B.pj)
  po : W.heap[B.po]? = some (opsO s.l)
  pj : W.heap[B.pj]? = some (objsO [(zID, B.x)])
  x : W.heap[B.x]? = some (objO 1 (some B.m) none)
  m : W.heap[B.m]? = some (headO B.b)
  b : W.heap[B.b]? = some (wordsO s.la)
theorem DocAt.lt {B : DB} {s : DocS} {W : World} (h : DocAt B s W) : B.d < W.heap.size ∧ B.po < W.heap.size ∧ B.pj < W.heap.size ∧ B.x < W.heap.size ∧ B.m < W.heap.size ∧ B.b < W.heap.size :=
  ⟨(Array.getElem?_eq_some_iff.1 h.d).1, (Array.getElem?_eq_some_iff.1 h.po).1, (Array.getElem?_eq_some_iff.1 h.pj).1, (Array.getElem?_eq_some_iff.1 h.x).1, (Array.getElem?_eq_some_iff.1 h.m).1, (Array.getElem?_eq_some_iff.1 h.b).1⟩
theorem DocAt.move {B : DB} {s : DocS} {W W' : World} (h : DocAt B s W) (hb : Below W.heap.size W W') : DocAt B s W' :=
  ⟨(hb.block _ h.lt.1).trans h.d, (hb.block _ h.lt.2.1).trans h.po, (hb.block _ h.lt.2.2.1).trans h.pj, (hb.block _ h.lt.2.2.2.1).trans h.x, (hb.block _ h.lt.2.2.2.2.1).trans h.m, (hb.block _ h.lt.2.2.2.2.2).trans h.b⟩
/-- The six blocks. -/
def DB.all (B : DB) : List Nat := [B.po, B.pj, B.b, B.m, B.x, B.d]
theorem Boxes.fsts {w0 W : World} {L : List (Nat × Obj)} (h : Boxes w0 W L) : (L.map Prod.fst).Nodup := by
  unfold List.Nodup
  rw [List.pairwise_iff_getElem]
  intro i j hi hj hij
  rw [List.getElem_map, List.getElem_map]
  rw [List.length_map] at hi hj
  exact h.apart i j _ _ (List.getElem?_eq_getElem hi) (List.getElem?_eq_getElem hj) (by omega)
theorem Boxes.doc {w0 W : World} {B : DB} {s : DocS} (h : Boxes w0 W (docBoxes B s)) : DocAt B s W ∧ B.all.Nodup ∧ ∀ k ∈ B.all, w0.heap.size ≤ k ∧ k < W.heap.size := by
  refine ⟨⟨h.at_ 5 rfl, h.at_ 0 rfl, h.at_ 1 rfl, h.at_ 4 rfl, h.at_ 3 rfl, h.at_ 2 rfl⟩, h.fsts, fun k hk => ?_⟩
  have key : ∀ (i : Nat) (p : Nat × Obj), (docBoxes B s)[i]? = some p → w0.heap.size ≤ p.1 ∧ p.1 < W.heap.size := fun i p hp => ⟨(h.rows i p hp).1, h.lt i hp⟩
  simp only [DB.all, List.mem_cons, List.not_mem_nil, or_false] at hk
  rcases hk with rfl | rfl | rfl | rfl | rfl | rfl
  · exact key 0 _ rfl
  · exact key 1 _ rfl
  · exact key 2 _ rfl
  · exact key 3 _ rfl
  · exact key 4 _ rfl
  · exact key 5 _ rfl
def okey (x : OT) : IDk := (x.o.R, x.o.N)
def objkey (x : OT) : IDk := (x.o.OR, x.o.ON)
theorem OT.Ok.okey {x : OT} (h : OT.Ok x) : IdOk (okey x) := ⟨h.r, h.n⟩
/-- What one that may be says of its numbers. -/
theorem good_parts {x : OT} (h : x.good = true) : goodB x.o.R x.o.N = true ∧ 1 ≤ x.o.T ∧ (∀ k, k < 64 → seenAt x.o k = true) ∧ makesB x.o (goodT x.t) (sameV x.t .no) = true := by
  unfold OT.good opB at h
  simp only [Bool.and_eq_true, decide_eq_true_eq] at h
  exact ⟨h.1.1.1.1, h.1.1.1.2, (seenTo_iff x.o 64).1 h.1.1.2, h.1.2⟩
theorem good_seen {x : OT} (h : x.good = true) : ∀ k, k < 64 → 0 ≤ vat x.o.seen k ∧ vat x.o.seen k ≤ 60 := fun k hk => by
  have := (good_parts h).2.2.1 k hk
  unfold seenAt at this
  simp only [Bool.and_eq_true, decide_eq_true_eq] at this
  exact this.1
theorem goodB_idok {r n : Int} (h : goodB r n = true) : IdOk (r, n) := by
  rw [goodB_iff] at h
  exact ⟨⟨by show (_ : Int) ≤ r; omega, by show r ≤ (_ : Int); omega⟩, ⟨by show (_ : Int) ≤ n; omega, by show n ≤ (_ : Int); omega⟩⟩
theorem hasB_good {v : List Int} {r n : Int} (h : hasB v r n = true) : goodB r n = true := by unfold hasB at h; exact (Bool.and_eq_true_iff.1 h).1
theorem good_obj {x : OT} (h : x.good = true) : objkey x = zID ∨ goodB x.o.OR x.o.ON = true := by
  unfold OT.good opB at h
  simp only [Bool.and_eq_true] at h
  have h2 := h.2
  have key : ∀ b, namedB x.o x.o.OR x.o.ON b = true → objkey x = zID ∨ goodB x.o.OR x.o.ON = true := fun b hb => by
    unfold namedB at hb
    split at hb
    · rename_i e; exact .inl (Prod.ext e.1 e.2)
    · exact .inr (hasB_good hb)
  split at h2
  · simp only [Bool.and_eq_true] at h2; exact key _ h2.2
  · split at h2
    · simp only [Bool.and_eq_true] at h2; exact key _ h2.1.2
    · cases h2
theorem good_objkey {x : OT} (h : x.good = true) : IdOk (objkey x) := by
  rcases good_obj h with e | e
  · rw [e]; exact zID_ok
  · exact goodB_idok e
/-- On a map no element is named. -/
theorem good_at0 {x : OT} (h : x.good = true) (hk : (x.o.K == 1 || x.o.K == 2) = true) : x.o.AR = 0 ∧ x.o.AN = 0 := by
  unfold OT.good opB at h
  rw [hk, if_pos rfl] at h
  simp only [Bool.and_eq_true, beq_iff_eq] at h
  exact h.2.1.2
theorem good_kind {x : OT} (h : x.good = true) : x.o.K = 1 ∨ x.o.K = 2 ∨ x.o.K = 3 ∨ x.o.K = 4 := by
  unfold OT.good opB at h
  simp only [Bool.and_eq_true] at h
  have h2 := h.2
  split at h2
  · rename_i e; simp only [Bool.or_eq_true, beq_iff_eq] at e; omega
  · split at h2
    · rename_i e; simp only [Bool.or_eq_true, beq_iff_eq] at e; omega
    · cases h2
/-- On a list the object is none of nobody's. -/
theorem good_obj3 {x : OT} (h : x.good = true) (hk : (x.o.K == 1 || x.o.K == 2) = false) : objkey x ≠ zID := by
  unfold OT.good opB at h
  rw [hk] at h
  simp only [Bool.and_eq_true] at h
  have h2 := h.2
  simp only [Bool.false_eq_true, if_false] at h2
  split at h2
  · simp only [Bool.and_eq_true] at h2
    intro e
    have h3 := h2.1.2
    unfold namedB at h3
    rw [if_pos ⟨congrArg Prod.fst e, congrArg Prod.snd e⟩] at h3
    cases h3
  · cases h2
/-- The time of an operation that is known; 0: it is not. -/
def timeOf (l : Ods) (k : IDk) : Int := match assoc l k with
  | some y => y.o.T
  | none => 0
/-- The greatest time of what was seen of the first so many replicas. -/
def sawTo (l : Ods) (v : List Int) : Nat → Int
  | 0 => 0
  | k + 1 => if 0 < vat v k then (if sawTo l v k < timeOf l ((k : Int) + 1, vat v k) then timeOf l ((k : Int) + 1, vat v k) else sawTo l v k) else sawTo l v k
def sawT (l : Ods) (v : List Int) : Int := sawTo l v 64
end Go.Proofs.YtffcpmohanhihaaGreatDoor
namespace Go.Proofs.YtffcpmohanhihaaGreatDoor
open Go.RowKit Go.Sort
set_option linter.unusedVariables false
set_option linter.unusedSimpArgs false
set_option linter.unusedSectionVars false
def Z64 : List Int := List.replicate 64 0
def s0 : DocS := ⟨Z64, 0, [], []⟩
theorem s0_ok : DocOk s0 := ⟨rfl, fun k hk => by
    have : vat Z64 k = 0 := by
      unfold vat Z64
      rw [List.getD_eq_getElem?_getD, List.getElem?_replicate]; split <;> rfl
    show 0 ≤ vat Z64 k ∧ vat Z64 k ≤ 60
    omega, ⟨by decide, by decide⟩, KeysIn.nil, fun p hp => (List.not_mem_nil hp).elim, WdOk.nil⟩
theorem mapd_under : Tryz.prog.underlying 70 = some (.map 31 68) := Tryz.underlying70
theorem mapops_under : Tryz.prog.underlying 67 = some (.map 31 40) := Tryz.underlying67
theorem build_doc (po pj : Nat) (W : World) : (Instr.build 72 #[(2, .map (some po)), (3, .map (some pj))]).run Tryz.prog W = .ok (.agg (docC Z64 0 po pj)) W := by kernel_rfl
theorem build_obj (d : Int) (m : Nat) (W : World) : (Instr.build 96 #[(0, .int .i64 d), (1, .pointer (some ⟨m, 0, none⟩))]).run Tryz.prog W = .ok (.agg #[.int .i64 d, .pointer (some ⟨m, 0, none⟩), .pointer none]) W := by kernel_rfl
theorem build_id0 (W : World) : (Instr.build 31 #[]).run Tryz.prog W = .ok (.agg #[.int .i64 0, .int .i64 0]) W := by kernel_rfl
section
variable {P : Program} {K V : Type} [DecidableEq K] {kf : K → Value} {vf : V → Value} {kt et t : TypeId} {Kd : K → Prop} {ops : Array Oper} {rest : List Oper} {o : Oper} {a : Act} {w : World} {b : Nat} {l : List (K × V)} {k : K} {Q : Exit → Act → World → Prop}
/-- An entry of a map's literal. -/
theorem insert_arm (hwt : Region.wanted o (yielded ops a.tmps) = true) (m x y : Operand) (ho : o.op = .insert t m x y) (F : KeyF P kt kf Kd) (ht : P.underlying t = some (.map kt et)) (hl : KeysIn Kd l) (hk : Kd k)
    (hm : a.eval m = .map (some b)) (hx : a.eval x = kf k) (v : V) (hv : a.eval y = vf v) (hb : w.heap[b]? = some (mapO kf vf l))
    (h : ∀ w', w'.heap[b]? = some (mapO kf vf (assocPut l k v)) → (∀ j, j ≠ b → w'.heap[j]? = w.heap[j]?) → Below b w w' → w'.heap.size = w.heap.size → wpList P ops Q rest (a.put o.dst (.tuple #[])) w') : wpList P ops Q (o :: rest) a w :=
  BigFrame.wpList_want hwt fun K' hK' => by
    unfold Oper.wp
    simp only [execOp, ho, hm, hx, hv, Sem.run_bind, run_update F ht hl hk hb v, Result.andThen_ok, Sem.run_pure, Oper.upon_value]
    exact hK' _ _ (h _ (turn_block hb) (fun j hj => turn_other hj) (turn_below _) (turn_size _))
end
set_option maxRecDepth 100000 in
set_option maxHeartbeats 1000000 in
theorem made_map (w : World) (d : Int) : Calls Tryz.prog 22 #[.int .i64 1, .int .i64 d] w fun e w' => ∃ x m b, e = .returned (.pointer (some ⟨x, 0, none⟩)) ∧ Boxes w w' [(b, wordsO []), (m, headO b), (x, objO d (some m) none)] := by
  have hS := Boxes.start w
  go_enter Tryz.func22, Tryz.ntmps22
  go_wp2_with (first | go_skip | (go_at_call 39; (with_reducible (refine (lNew_any _).mono ?_)); rintro e wn ⟨m, b, rfl, hbx⟩; have hS1 := hS.app hbx; simp only [List.nil_append] at hS1; clear hS hbx; have hS := hS1; clear hS1))
  go_ret
  exact ⟨_, _, _, rfl, hS.alloc _⟩
set_option maxRecDepth 100000 in
set_option maxHeartbeats 1000000 in
theorem dNew_any (w : World) : Calls Tryz.prog 10 #[] w fun e w' => ∃ B : DB, e = .returned (.pointer (some ⟨B.d, 0, none⟩)) ∧ Boxes w w' (docBoxes B s0) := by
  have hm := @run_makeMap Tryz.prog
  have b1 := Lib.hid build_doc
  have hS := ((Boxes.start w).alloc (Obj.map #[] 0)).alloc (Obj.map #[] 0)
  rw [show (w.alloc (Obj.map #[] 0)).heap.size = w.heap.size + 1 from Array.size_push ..] at hS
  simp only [List.nil_append, List.cons_append] at hS
  go_enter Tryz.func10, Tryz.ntmps10
  go_wp2_with (first | ((with_reducible refine gate_op (op := .insert 70 (.tmp 2) (.tmp 3) (.tmp 4)) rfl ?_); refine insert_arm (kf := idv) (vf := ptrv) (l := ([] : List (IDk × Nat))) (k := zID) rfl (.tmp 2) (.tmp 3) (.tmp 4) rfl id_key mapd_under KeysIn.nil zID_ok rfl rfl x rfl (hS.at_ 1 rfl) ?_; intro wn hgn hon hbn hsn; have hS1 := hS.put 1 rfl hon hbn hgn; simp only [List.set_cons_zero, List.set_cons_succ] at hS1; clear hS hgn hon hbn hsn; have hS := hS1; clear hS1) | ((with_reducible refine gate_op (op := .build 72 #[(2, .tmp 1), (3, .tmp 5)]) rfl ?_); refine build_arm rfl 72 #[(2, .tmp 1), (3, .tmp 5)] rfl #[(2, .map (some w.heap.size)), (3, .map (some (w.heap.size + 1)))] (by simp only [List.map_toArray, List.map_cons, List.map_nil]; rfl) _ (b1.out _ _ _) ?_) | go_skip | (go_at_call 22; (with_reducible (refine (made_map _ 1).mono ?_)); rintro e wn ⟨x, m, b, rfl, hbx⟩; have hS1 := hS.app hbx; simp only [List.nil_append, List.cons_append] at hS1; clear hS hbx; have hS := hS1; clear hS1))

  go_ret
  exact ⟨⟨_, _, _, _, _, _⟩, rfl, hS.alloc _⟩
theorem field_time (o : OpV) (W : World) : (Instr.field 40 (.agg o.c) 1).run Tryz.prog W = .ok (.int .i64 o.T) W := by
  have h : o.c[2]? = some (.int .i64 o.T) := OpV.g2
  have hd : (Instr.field 40 (.agg o.c) 1).run Tryz.prog W = (part 2 o.c 2).run Tryz.prog W := by kernel_rfl
  rw [hd]
  unfold part
  have hag : (isAgg 2).run Tryz.prog W = .ok false W := by kernel_rfl
  simp [Sem.run_bind, hag, h]
theorem look_ods (l : Ods) (k : IDk) : lookV false OT.v (.agg zeroO.c) (assoc l k) = .agg ((assoc l k).getD zOT).o.c := by
  cases assoc l k <;> rfl
theorem timeOf_is (l : Ods) (k : IDk) : ((assoc l k).getD zOT).o.T = timeOf l k := by
  unfold timeOf
  cases assoc l k <;> rfl
theorem doc_cell {B : DB} {s : DocS} {W : World} (h : DocAt B s W) {j : Nat} {u : Value} (hu : (docC s.v s.t B.po B.pj)[j]? = some u) : W.cell? ⟨B.d, j, none⟩ = some u := by
  rw [cell_of_row _ _ _ _ _ _ h.d]; exact hu
set_option maxRecDepth 100000 in
set_option maxHeartbeats 1000000 in
theorem dVec_any (B : DB) (s : DocS) (w : World) (hd : DocAt B s w) (hv : s.v.length = 64) : Calls Tryz.prog 14 #[.pointer (some ⟨B.d, 0, none⟩)] w fun e w' => e = .returned (.agg (vcells s.v)) ∧ Below w.heap.size w w' := by
  have HD := Lib.hid hd
  have hi := vec_info s.v hv
  have hS : Boxes w (w.alloc (Obj.cells (vcells (List.replicate 64 0)) 33)) [(w.heap.size, Obj.cells (vcells (List.replicate 64 0)) 33)] := (Boxes.start w).alloc _
  clear hd
  go_enter Tryz.func14, Tryz.ntmps14
  go_wp2_with (first | ((with_reducible refine gate_op (op := .load 33 (.tmp 5)) rfl ?_); refine load_part rfl 33 (.tmp 5) rfl _ 0 rfl _ _ (0, 0) _ _ (HD.out.move hS.below).d (docC_vec hv _ _ _) Tryz.underlying33 rfl hi ?_) | ((with_reducible refine gate_op (op := .store 33 (.tmp 2) (.tmp 6)) rfl ?_); refine wpList_store_row rfl 33 (.tmp 2) (.tmp 6) rfl _ (vcells s.v) rfl rfl 33 _ (hS.at_ 0 rfl) hi (by simp [vcells_size, hv]) (vcells_one _) ?_; intro wn hbn hgn hon hsn; have hS1 := hS.put 0 rfl hon hbn hgn; (try simp only [List.set_cons_zero] at hS1); clear hS hbn hgn hon hsn; have hS := hS1; clear hS1) | go_skip)
  exact bodyPost_ret (v := .agg (vcells s.v)) (results_cell_row rfl _ _ _ _ _ _ _ rfl (hS.at_ 0 rfl) Tryz.underlying33 rfl hi) rfl ⟨rfl, hS.below⟩
theorem sawTo_succ (l : Ods) (v : List Int) (k : Nat) : sawTo l v (k + 1) = if 0 < vat v k then (if sawTo l v k < timeOf l ((k : Int) + 1, vat v k) then timeOf l ((k : Int) + 1, vat v k) else sawTo l v k) else sawTo l v k := rfl
theorem op_zero' {W : World} : (zeroValue 40).run Tryz.prog W = .ok (.agg zeroO.c) W := op_zero W
section
variable (B : DB) (s : DocS) (x : OT) (w : World) (hd : DocAt B s w) (hs : DocOk s) (hx : OT.Ok x) (hb : ∀ k, k < 64 → 0 ≤ vat x.o.seen k ∧ vat x.o.seen k ≤ 60)
include hd hs hx hb
set_option maxRecDepth 100000 in
set_option maxHeartbeats 2000000 in
theorem dSeen_any : Calls Tryz.prog 73 #[.pointer (some ⟨B.d, 0, none⟩), opv x.o] w fun e w' => e = .returned (.int .i64 (sawT s.l x.o.seen)) ∧ Below w.heap.size w w' := by
  have HD := Lib.hid hd
  have HK := Lib.hid hs
  have HB := Lib.hid hb
  have hxs := hx.seen
  have hS : Boxes w (w.alloc (Obj.cells x.o.c 40)) [(w.heap.size, Obj.cells x.o.c 40)] := (Boxes.start w).alloc _
  clear hd hs hx hb
  go_enter Tryz.func73, Tryz.ntmps73
  go_wp2_with (first | ((with_reducible refine gate_op (op := .load 33 (.tmp 8)) rfl ?_); refine load_part rfl 33 (.tmp 8) rfl _ 3 rfl _ _ (0, 0) _ _ (hS.at_ 0 rfl) (OpV.pSeen hxs) Tryz.underlying33 rfl (seen_info' _ hxs) ?_) | go_skip)
  generalize (w.alloc (Obj.cells x.o.c 40)) = w1 at *
  have d65 := doc_cell (HD.out.move hS.below) (docC_65 HK.out.v s.t B.po B.pj)
  have HW := Lib.hid hS.below
  clear hS
  go_loopw [5, 10] (fun mv kv wr => wr = w1 ∧ ∃ k : Nat, k ≤ 64 ∧ mv = .int .i64 (sawTo s.l x.o.seen k) ∧ kv = .int .i64 (k : Int)) (fun _ kv _ => 64 - (intOf kv).toNat)
  case atStart => exact ⟨rfl, 0, Nat.zero_le _, rfl, rfl⟩
  case round =>
    rename World => wr
    obtain ⟨rfl, k, hk, rfl, rfl⟩ := hrel
    by_cases hk64 : k < 64
    · have hkb : decide ((k : Int) < 64) = true := by simp; omega
      have hix := run_index_vec (P := Tryz.prog) 33 2 Tryz.underlying33 Tryz.underlying2 (by kernel_rfl) x.o.seen hxs k hk64
      have HS := Lib.hid (sawTo_succ s.l x.o.seen k)
      have hv := HB.out k hk64
      generalize hvn : vat x.o.seen k = n at *
      by_cases hn : 0 < n
      · have hnb : decide (0 < n) = true := by simpa using hn
        have ft := field_time
        obtain ⟨y, hy⟩ : ∃ y, (assoc s.l ((k : Int) + 1, n)).getD zOT = y := ⟨_, rfl⟩
        have HTY := Lib.hid (show timeOf s.l ((k : Int) + 1, n) = y.o.T by rw [← hy, timeOf_is])
        have hlk : lookV false OT.v (.agg zeroO.c) (assoc s.l ((k : Int) + 1, n)) = .agg y.o.c := by rw [look_ods, hy]
        have hid : IdOk ((k : Int) + 1, n) := ⟨⟨by show (_ : Int) ≤ (k : Int) + 1; omega, by show (k : Int) + 1 ≤ (_ : Int); omega⟩, ⟨by show (_ : Int) ≤ n; omega, by show n ≤ (_ : Int); omega⟩⟩
        have hpo := (HD.out.move HW.out).po
        clear hy
        go_wp2_with (first | ((with_reducible refine gate_op (op := .lookup 67 (.tmp 20) (.tmp 24) false) rfl ?_); refine look_arm (kf := idv) (vf := OT.v) (k := ((k : Int) + 1, n)) rfl (.tmp 20) (.tmp 24) false rfl id_key mapops_under HK.out.keys hid rfl rfl hpo (op_zero _) hlk ?_) | go_skip)
        all_goals
          go_roundw
          case rel => exact ⟨by first | rfl | trivial, k + 1, by omega, by rw [HS.out, if_pos hn, HTY.out]; congr 1; split <;> omega, by go_num⟩
          case measure => first | (simp [intOf]; done) | (simp [intOf]; omega)
      · have hnb : decide (0 < n) = false := by simp; omega
        go_wp2_with go_skip
        go_roundw
        case rel => exact ⟨by first | rfl | trivial, k + 1, by omega, by rw [HS.out, if_neg hn], by go_num⟩
        case measure => first | (simp [intOf]; done) | (simp [intOf]; omega)
    · have hkb : decide ((k : Int) < 64) = false := by simp; omega
      obtain rfl : k = 64 := by omega
      go_wp2_with go_skip
      go_ret
      exact ⟨rfl, HW.out⟩
end
end Go.Proofs.YtffcpmohanhihaaGreatDoor
