/-
  ops.After tells what is written here, for all operations. No condition.
  Maps in which the last word counts, as they lie in memory. No condition.
  An operation's one form: its value a leaf. Two that are alike have one form. No condition.
  A statement whose order Go leaves open: what only reads, and one store of a row into a block that none of it reads; then the rest, one behind the other. No condition of a law's; a tool of the walks.
  ops.After tells what is written here, for all operations. No condition.
-/
import Derived.Test.YtffcpmohanhihaaGreatDoorJ10
import Derived.Test.YtffcpmohanhihaaGreatDoorJ9
import Derived.Test.YtffcpmohanhihaaGreatDoorRegBJ
namespace Go.Proofs.YtffcpmohanhihaaGreatDoor
open Go.RowKit
set_option linter.unusedVariables false
set_option linter.unusedSimpArgs false
def afterB (a b : OpV) : Bool := decide (b.T < a.T ∨ a.T = b.T ∧ b.R < a.R)
set_option maxHeartbeats 1000000 in
theorem After_any (a b : OpV) (w : World) : Calls Tryz.prog 77 #[opv a, opv b] w fun e w' => e = .returned (.bool (afterB a b)) ∧ Below w.heap.size w w' := by
  have a0 := OpV.g0 (o := a)
  have a2 := OpV.g2 (o := a)
  have b0 := OpV.g0 (o := b)
  have b2 := OpV.g2 (o := b)
  by_cases h1 : b.T < a.T
  · have hh : Hid (afterB a b = true) := by unfold Hid afterB; simp [h1]
    go_enter Tryz.func77, Tryz.ntmps77
    go_wp2
    go_ret
    exact ⟨ret_bool hh.out.symm, ((Below.refl _ _).alloc (Nat.le_refl _) _).alloc (by simp) _⟩
  · by_cases h2 : a.T = b.T
    · have h2b : (a.T == b.T) = true := by simpa using h2
      have hh : Hid (afterB a b = decide (b.R < a.R)) := by unfold Hid afterB; simp [h2]
      clear h2
      go_enter Tryz.func77, Tryz.ntmps77
      go_wp2
      go_ret
      exact ⟨ret_bool hh.out.symm, ((Below.refl _ _).alloc (Nat.le_refl _) _).alloc (by simp) _⟩
    · have h2b : (a.T == b.T) = false := by simpa using h2
      have hh : Hid (afterB a b = false) := by unfold Hid afterB; simp [h1, h2]
      clear h2
      go_enter Tryz.func77, Tryz.ntmps77
      go_wp2
      go_ret
      exact ⟨ret_bool hh.out.symm, ((Below.refl _ _).alloc (Nat.le_refl _) _).alloc (by simp) _⟩
end Go.Proofs.YtffcpmohanhihaaGreatDoor
namespace Go.Proofs.YtffcpmohanhihaaGreatDoor
open Go.RowKit
set_option linter.unusedVariables false
set_option linter.unusedSimpArgs false
/-- All that was there but one block is as it was. -/
structure But (b : Nat) (w w' : World) : Prop where
  os : w'.os = w.os
  tape : w'.tape = w.tape
  output : w'.output = w.output
  size : w.heap.size ≤ w'.heap.size
  block : ∀ k, k < w.heap.size → k ≠ b → w'.heap[k]? = w.heap[k]?
theorem But.of_below {b : Nat} {w w' : World} (h : Below w.heap.size w w') : But b w w' := ⟨h.os, h.tape, h.output, h.size, fun k hk _ => h.block k hk⟩
theorem But.then {b : Nat} {w w1 w' : World} (h : But b w w1) (k : But b w1 w') : But b w w' := ⟨k.os.trans h.os, k.tape.trans h.tape, k.output.trans h.output, Nat.le_trans h.size k.size, fun i hi hb => (k.block i (Nat.lt_of_lt_of_le hi h.size) hb).trans (h.block i hi hb)⟩
theorem But.refl (b : Nat) (w : World) : But b w w := ⟨rfl, rfl, rfl, Nat.le_refl _, fun _ _ _ => rfl⟩
theorem But.turn {b : Nat} {w w' : World} (ho : ∀ j, j ≠ b → w'.heap[j]? = w.heap[j]?) (hb : Below b w w') : But b w w' := ⟨hb.os, hb.tape, hb.output, hb.size, fun k _ h => ho k h⟩
/-- Below a block that is younger. -/
theorem But.below {b B : Nat} {w w' : World} (h : But b w w') (hB : B ≤ b) (hs : B ≤ w.heap.size) : Below B w w' := ⟨h.os, h.tape, h.output, h.size, fun k hk => h.block k (Nat.lt_of_lt_of_le hk hs) (by omega)⟩
/-- Known blocks, one of them turned by a call. -/
theorem Boxes.turn {w0 W W' : World} {L : List (Nat × Obj)} {b : Nat} {o o' : Obj} (h : Boxes w0 W L) (i : Nat) (hp : L[i]? = some (b, o)) (hb : But b W W') (hn : W'.heap[b]? = some o') : Boxes w0 W' (L.set i (b, o')) := by
  have hi : i < L.length := (List.getElem?_eq_some_iff.1 hp).1
  have hfst : ∀ (j : Nat) q, (L.set i (b, o'))[j]? = some q → (j = i ∧ q = (b, o')) ∨ (j ≠ i ∧ L[j]? = some q) := by
    intro j q hq
    rw [List.getElem?_set] at hq
    by_cases hji : i = j
    · subst hji; simp [hi] at hq; exact .inl ⟨rfl, hq.symm⟩
    · rw [if_neg hji] at hq; exact .inr ⟨fun e => hji e.symm, hq⟩
  have hB := (h.rows i _ hp).1
  refine ⟨h.below.trans (hb.below hB h.below.size), fun j q hq => ?_, fun j k q r hq hr hjk => ?_⟩
  · rcases hfst j q hq with ⟨rfl, rfl⟩ | ⟨h1, h2⟩
    · exact ⟨(h.rows j _ hp).1, hn⟩
    · exact ⟨(h.rows j q h2).1, (hb.block q.1 (h.lt j h2) (h.apart j i q _ h2 hp h1)).trans (h.at_ j h2)⟩
  · rcases hfst j q hq with ⟨rfl, rfl⟩ | ⟨h1, h2⟩ <;> rcases hfst k r hr with ⟨rfl, rfl⟩ | ⟨h3, h4⟩
    · omega
    · exact h.apart j k (b, o) r hp h4 hjk
    · exact h.apart j k q (b, o) h2 hp hjk
    · exact h.apart j k q r h2 h4 hjk
/-- Known blocks, and those that a call made. -/
theorem Boxes.app {w0 W W' : World} {L M : List (Nat × Obj)} (h : Boxes w0 W L) (k : Boxes W W' M) : Boxes w0 W' (L ++ M) := by
  have h1 := h.step k.below
  have key : ∀ (j : Nat) r, (L ++ M)[j]? = some r → (j < L.length ∧ L[j]? = some r) ∨ (L.length ≤ j ∧ M[j - L.length]? = some r) := by
    intro j r hr
    rcases Nat.lt_or_ge j L.length with hj | hj
    · rw [List.getElem?_append_left hj] at hr; exact .inl ⟨hj, hr⟩
    · rw [List.getElem?_append_right hj] at hr; exact .inr ⟨hj, hr⟩
  refine ⟨h1.below, fun i p hp => ?_, fun i j p q hp hq hij => ?_⟩
  · rcases key i p hp with ⟨_, hp⟩ | ⟨_, hp⟩
    · exact h1.rows i p hp
    · exact ⟨Nat.le_trans h.below.size (k.rows _ p hp).1, (k.rows _ p hp).2⟩
  · rcases key i p hp with ⟨h2, h3⟩ | ⟨h2, h3⟩ <;> rcases key j q hq with ⟨h4, h5⟩ | ⟨h4, h5⟩
    · exact h.apart i j p q h3 h5 hij
    · have := h.lt i h3; have := (k.rows _ q h5).1; omega
    · have := h.lt j h5; have := (k.rows _ p h3).1; omega
    · exact k.apart _ _ p q h3 h5 (by omega)
theorem Boxes.drop_ {w0 W : World} {L M : List (Nat × Obj)} (h : Boxes w0 W (L ++ M)) : Boxes w0 W L := by
  have := h.drop (n := L.length)
  rwa [List.take_left'] at this
  rfl
abbrev Wd := List (ByteArray × OT)
/-- A map of words. -/
def wordsO (l : Wd) : Obj := mapO Value.string OT.v l
structure WdOk (l : Wd) : Prop where
  keys : KeysIn KSz l
  ok : ∀ p ∈ l, OT.Ok p.2
theorem WdOk.nil : WdOk [] := ⟨KeysIn.nil, fun p hp => by cases hp⟩
theorem WdOk.put {l : Wd} (h : WdOk l) {k : ByteArray} (hk : KSz k) {y : OT} (hy : OT.Ok y) : WdOk (assocPut l k y) :=
  ⟨h.keys.put hk y, fun p hp => by
    rcases put_mem hp with rfl | hp
    · exact hy
    · exact h.ok p hp⟩
theorem WdOk.at_ {l : Wd} (h : WdOk l) {k : ByteArray} {y : OT} (hy : assoc l k = some y) : OT.Ok y := h.ok _ (assoc_mem hy)
/-- The map's own block: it leads to the words. -/
def headO (b : Nat) : Obj := .cells #[.map (some b)] 120
def zOT : OT := ⟨zeroO, .no⟩
theorem zOT_ok : OT.Ok zOT := ⟨rfl, rfl, by decide, ⟨by decide, by decide⟩, ⟨by decide, by decide⟩, ⟨by decide, by decide⟩, fun B W => VT.no_in B W, rfl, rfl⟩
theorem op_zero (W : World) : (zeroValue 40).run Tryz.prog W = .ok (.agg zeroO.c) W := by kernel_rfl
/-- Does an operation count, against these words? -/
def accB (x : OT) (l : Wd) : Bool := (x.o.K == 1 || x.o.K == 2) && x.good && (match assoc l x.o.key with
  | some y => afterB x.o y.o
  | none => true)
/-- What an operation leaves. -/
def Applied (x : OT) (l : Wd) (r : Bool) (l2 : Wd) : Prop := r = accB x l ∧ if accB x l = true then ∃ y, OT.Ok y ∧ OT.Same x y ∧ l2 = assocPut l x.o.key y else l2 = l
theorem Applied.ok {x : OT} {l l2 : Wd} {r : Bool} (h : Applied x l r l2) (hl : WdOk l) (hk : KSz x.o.key) : WdOk l2 := by
  obtain ⟨_, h⟩ := h
  split at h
  · obtain ⟨y, hy, _, rfl⟩ := h
    exact hl.put hk hy
  · rw [h]; exact hl
end Go.Proofs.YtffcpmohanhihaaGreatDoor
namespace Go.Proofs.YtffcpmohanhihaaGreatDoor
open Go.RowKit
set_option linter.unusedVariables false
set_option linter.unusedSimpArgs false
def OT.can (x : OT) : OT := ⟨⟨x.o.R, x.o.N, x.o.T, x.o.seen, x.o.K, x.o.OR, x.o.ON, x.o.key, x.o.AR, x.o.AN, x.o.M, x.t.k, x.t.n, x.t.s, (VT.leaf x.t.k x.t.n x.t.s).L, (VT.leaf x.t.k x.t.n x.t.s).M⟩, VT.leaf x.t.k x.t.n x.t.s⟩
theorem leaf_same {t : VT} (hl : t.ln = 0) (hm : t.mn = 0) : sameV t (VT.leaf t.k t.n t.s) = true := by
  rw [sameV_iff]
  exact ⟨rfl, rfl, hl, hm, rfl, fun i hi => absurd hi (by omega), fun i hi => absurd hi (by omega)⟩
theorem OT.Ok.can_same {x : OT} (h : OT.Ok x) : OT.Same x x.can := ⟨rfl, rfl, rfl, rfl, rfl, rfl, rfl, rfl, rfl, rfl, rfl, leaf_same h.ln h.mn⟩
theorem OT.Ok.can {x : OT} (h : OT.Ok x) : OT.Ok x.can := by
  exact ⟨h.seen, rfl, h.key, h.r, h.n, h.t, fun B W => VT.leaf_in B W _ _ _ (h.tin B W).here.n0 (h.tin B W).here.n1 (h.tin B W).here.k0 (h.tin B W).here.k1 (h.tin B W).here.sl, rfl, rfl⟩
theorem OT.Same.can {x y : OT} (h : OT.Same x y) : x.can = y.can := by
  obtain ⟨h1, h2, h3, h4, h5, h6, h7, h8, h9, h10, h11, h12⟩ := h
  obtain ⟨e1, e2, _, _, e5, _, _⟩ := sameV_parts h12
  have e5 : x.t.s = y.t.s := by first | exact e5 | exact ba_eq e5
  unfold OT.can
  rw [h1, h2, h3, h4, h5, h6, h7, h8, h9, h10, h11, e1, e2, e5]
theorem same_of_can {x y : OT} (hx : OT.Ok x) (hy : OT.Ok y) (h : x.can = y.can) : OT.Same x y := hx.can_same.trans (h ▸ hy.can_same.symm)
theorem can_can (x : OT) : x.can.can = x.can := rfl
theorem ok_vk {x : OT} (h : OT.Ok x) : x.o.VK = x.t.k := by
  have := congrArg (fun a => a[0]?) h.vc
  simp [OpV.vc, VT.c] at this
  exact this
theorem good_same {x y : OT} (hx : OT.Ok x) (hy : OT.Ok y) (h : OT.Same x y) : x.good = y.good := by
  have hv := h.V
  have hk : x.o.VK = y.o.VK := by rw [ok_vk hx, ok_vk hy]; exact (sameV_parts hv).1
  have hg : goodT x.t = goodT y.t := goodT_same hv
  have hz : sameV x.t .no = sameV y.t .no := by
    cases hq : sameV y.t .no with
    | true => exact sameV_trans hv hq
    | false =>
      cases hp : sameV x.t .no with
      | false => rfl
      | true => rw [sameV_trans (sameV_symm hv) hp] at hq; cases hq
  unfold OT.good opB seenB makesB namedB addsB
  have hs : seenTo x.o 64 = seenTo y.o 64 := by
    have : ∀ n, seenTo x.o n = seenTo y.o n := by
      intro n
      induction n with
      | zero => first | rfl | simp [seenTo]
      | succ n ih => simp only [seenTo, ih, seenAt, h.seen, h.R, h.N]
    exact this 64
  rw [hg, hz, hs, hk, h.R, h.N, h.T, h.seen, h.K, h.OR, h.ON, h.key, h.AR, h.AN, h.M]
theorem after_can (x y : OT) : afterB x.can.o y.can.o = afterB x.o y.o := rfl
end Go.Proofs.YtffcpmohanhihaaGreatDoor
namespace Go.Proofs.YtffcpmohanhihaaGreatDoor
open Go.Sort Go.RowKit
set_option linter.unusedVariables false
set_option linter.unusedSimpArgs false
instance : Inhabited Obj := ⟨.cells #[] 0 (0, 0)⟩
/-- How a world may stand behind another one, all blocks but one as they were. -/
structure Turned where
  d : Nat
  os : Array Obj
  x : Obj
  deriving Inhabited
def turned (w : World) (b : Nat) (p : Turned) : World := { Go.Sort.grow (redrawn w p.d) p.os with heap := (Go.Sort.grow (redrawn w p.d) p.os).heap.setIfInBounds b p.x }
theorem turned_but (w : World) (b : Nat) (p : Turned) : But b w (turned w b p) := by
  have h := below_regrown w p.d p.os
  refine ⟨h.os, h.tape, h.output, by simpa [turned] using h.size, fun k hk hne => ?_⟩
  rw [← h.block k hk]
  simp only [turned, Array.getElem?_setIfInBounds]
  rw [if_neg (fun e => hne e.symm)]
theorem but_turned {w w' : World} {b : Nat} (h : But b w w') (hb : b < w.heap.size) : ∃ p : Turned, w' = turned w b p := by
  obtain ⟨heap', tape', drawn', os', output'⟩ := w'
  have e1 : os' = w.os := h.os
  have e2 : tape' = w.tape := h.tape
  have e3 : output' = w.output := h.output
  have hs : w.heap.size ≤ heap'.size := h.size
  have hk : ∀ k, k < w.heap.size → k ≠ b → heap'[k]? = w.heap[k]? := h.block
  subst e1 e2 e3
  refine ⟨⟨drawn', heap'.extract w.heap.size heap'.size, heap'[b]'(by omega)⟩, ?_⟩
  have eh : heap' = (w.heap ++ heap'.extract w.heap.size heap'.size).setIfInBounds b (heap'[b]'(by omega)) := by
    apply Array.ext_getElem?
    intro k
    rw [Array.getElem?_setIfInBounds]
    by_cases hkb : b = k
    · subst hkb
      rw [if_pos rfl, if_pos (by simp; omega), Array.getElem?_eq_getElem (by omega)]
    · rw [if_neg hkb]
      by_cases hk2 : k < w.heap.size
      · rw [Array.getElem?_append_left hk2]; exact hk k hk2 (fun e => hkb e.symm)
      · rw [Array.getElem?_append_right (by omega), Array.getElem?_extract]
        by_cases hk3 : k < heap'.size
        · rw [if_pos (by omega)]; congr 1; omega
        · rw [if_neg (by omega), Array.getElem?_eq_none (by omega)]
  simp only [turned, grow, redrawn]
  congr 1
theorem cell_turned {w : World} {a : Addr} {v : Value} (h : w.cell? a = some v) {b : Nat} (hb : a.block ≠ b) (p : Turned) : (turned w b p).cell? a = some v := by
  rw [World.cell?_of_block (w := w) ((turned_but w b p).block a.block (block_lt_of_cell h) hb)]
  exact h
theorem obj_turned {w : World} {k b : Nat} {o : Obj} (h : w.heap[k]? = some o) (hb : k ≠ b) : ∀ W, (∃ p : Turned, W = turned w b p) → W.heap[k]? = some o := by
  rintro W ⟨p, rfl⟩
  rw [(turned_but w b p).block k (Array.getElem?_eq_some_iff.1 h).1 hb]
  exact h
section
variable {P : Program} {Q : Exit → Act → World → Prop}
theorem wp_region_put {id : Nat} {a0 : Act} {w0 : World} {l : List Oper} (ops' : Array Oper) (he : l.toArray = ops') (c : Nat) (hm : P.follows .mixedOrders = true) (hs : Region.noSelect ops' = true) (hB : ordOK ops' = true) (hcl : c < l.length) (hH : headOK ops' c = true) (hT : tailOK ops' (c + 1) = true)
    (t : TypeId) (tx ty : Tmp) (hos : (ops'[c]?).map (fun o => (o.op, o.dst, o.guard)) = some (.store t (.tmp tx) (.tmp ty), none, none)) (b : Nat) (old : Array Value) (hold : w0.heap[b]? = some (.cells old t (0, 0))) (hi : (P.info? t).map (·.size) = some old.size)
    (h : wpQuiet P l.toArray (fun w' => ∃ p : Turned, w' = turned w0 b p) (fun a => ∃ cs : Array Value, a.eval (.tmp tx) = .pointer (some ⟨b, 0, none⟩) ∧ a.eval (.tmp ty) = .agg cs ∧ old.size = cs.size ∧ cs.all (·.oneCell') = true ∧
      ∀ w, But b w0 w → w.heap[b]? = some (.cells cs t (0, 0)) → wpList P l.toArray Q (l.drop (c + 1)) a w) (l.take c) a0) : (Code.region id l.toArray true).wp P Q a0 w0 := by
  subst he
  have hbl : b < w0.heap.size := (Array.getElem?_eq_some_iff.1 hold).1
  have hsel : ∀ (i : Nat) o, l.toArray[i]? = some o → ∀ cs b, o.op ≠ .select cs b := fun i o ho cs b => Region.noSelect_spec hs i o cs b ho
  have hsz : l.toArray.size = l.length := by simp
  obtain ⟨val, _, hval, hE⟩ := quiet_values (ops := l.toArray) (a0 := a0) (l.take c) 0 (fun _ => undef) (fun j hj => by
    have hj' : j < c := by simp at hj; omega
    simp [List.getElem?_take, hj']) h
  have hl0 : 0 + (l.take c).length = c := by simp; omega
  rw [hl0] at hE hval
  obtain ⟨cs, hx, hy, hzs, h1c, hend⟩ := hE
  obtain ⟨os, hos1, hos2⟩ := Option.map_eq_some_iff.1 hos
  have hs1 : os.op = .store t (.tmp tx) (.tmp ty) := congrArg (fun x => x.1) hos2
  have hs2 : os.dst = none := congrArg (fun x => x.2.1) hos2
  have hs3 : os.guard = none := congrArg (fun x => x.2.2) hos2
  have hds : dstOf l.toArray c = none := by simp [dstOf, hos1, hs2]
  have hws : ∀ y, Region.wanted os y = true := fun y => by
    obtain ⟨d, p, ty', ps, af, g⟩ := os
    subst hs3; rfl
  refine wp_region_env (c + 1) hm hs hB (by omega) hT (fun θ L w => But b w0 w ∧ (∀ i, i < c → L i = true → θ i = val i) ∧ w.heap[b]? = some (.cells (if L c = true then cs else old) t (0, 0))) ⟨fun _ => undef, ⟨rfl, rfl, rfl, Nat.le_refl _, fun _ _ _ => rfl⟩, (fun i _ h => by cases h), hold⟩ ?_ ?_
  · intro i o hin ho θ L w hc hLi hdep hlat
    obtain ⟨hCw, h1, h2⟩ := hc
    rcases Nat.lt_or_ge i c with hic | hic
    · have hl := seq_looks hB ho (θ := θ) (θ' := val) (fun j hj hw => h1 j (by omega) (hdep j hw)) a0
      obtain ⟨e1, e2⟩ := looks_congr (hsel i o ho) hl
      have hv := hval i o (Nat.zero_le _) hic ho
      have hne : c ≠ i := by omega
      have hpl : plainOp o.op = true := by
        have := List.all_eq_true.1 hH i (List.mem_range.2 hic)
        unfold plainO at this
        rwa [ho] at this
      have fin : ∀ v, v = val i → But b w0 w ∧ (∀ j, j < c → updL L i j = true → updV θ i v j = val j) ∧ w.heap[b]? = some (.cells (if updL L i c = true then cs else old) t (0, 0)) := fun v hv => by
        refine ⟨hCw, fun j hj hl => ?_, by rw [updL_ne _ hne]; exact h2⟩
        by_cases hji : j = i
        · subst hji; rw [updV_same]; exact hv
        · rw [updV_ne _ _ hji]; rw [updL_ne _ hji] at hl; exact h1 j hj hl
      rw [e2]
      split
      · rename_i hwt
        rw [if_pos hwt] at hv
        rw [gives_eq e1]
        refine gives_imp (gives_of_plain hpl (hv w (but_turned hCw hbl))) ?_
        rintro u w' ⟨rfl, rfl⟩
        exact fin _ rfl
      · rename_i hwt
        rw [if_neg hwt] at hv
        exact fin _ hv.symm
    · obtain rfl : i = c := by omega
      obtain rfl : o = os := Option.some.inj (ho.symm.trans hos1)
      rw [if_pos (hws _)]
      have hl := seq_looks hB ho (θ := θ) (θ' := val) (fun j hj hw => h1 j hj (hdep j hw)) a0
      obtain ⟨e1, e2⟩ := looks_congr (hsel i o ho) hl
      rw [gives_eq e1]
      rw [hLi] at h2
      refine gives_store_row t (.tmp tx) (.tmp ty) hs1 b cs hx hy t old h2 (by rw [hi, hzs]) hzs h1c (fun v w' hg ho' hb => ⟨hCw.then (But.turn ho' hb), fun j hj hl => ?_, by rw [updL_same]; exact hg⟩)
      rw [updV_ne _ _ (by omega)]; rw [updL_ne _ (by omega)] at hl; exact h1 j hj hl
  · intro θ L w hc hL
    obtain ⟨hCw, h1, h2⟩ := hc
    have hall : ∀ j, j < c + 1 → L j = true := fun j hj => by rw [hL]; simpa using hj
    have e1 : seqTo l.toArray θ a0 (c + 1) = seqTo l.toArray val a0 c := by
      show (seqTo l.toArray θ a0 c).put (dstOf l.toArray c) (θ c) = _
      rw [hds, seqTo_congr θ val a0 c (fun j hj => h1 j hj (hall j (by omega)))]
      rfl
    rw [e1]
    rw [hall c (by omega)] at h2
    exact hend w hCw h2
end
end Go.Proofs.YtffcpmohanhihaaGreatDoor
namespace Go.Proofs.YtffcpmohanhihaaGreatDoor
open Go.RowKit
set_option linter.unusedVariables false
set_option linter.unusedSimpArgs false

set_option maxHeartbeats 1000000 in
theorem rAfter_any (a b : OpV) (w : World) : Calls Tryz.prog 64 #[opv a, opv b] w fun e w' => e = .returned (.bool (afterB a b)) ∧ Below w.heap.size w w' := by
  have a0 := OpV.g0 (o := a)
  have a2 := OpV.g2 (o := a)
  have b0 := OpV.g0 (o := b)
  have b2 := OpV.g2 (o := b)
  by_cases h1 : b.T < a.T
  · have hh : Hid (afterB a b = true) := by unfold Hid afterB; simp [h1]
    go_enter Tryz.func64, Tryz.ntmps64
    go_wp2
    go_ret
    exact ⟨ret_bool hh.out.symm, ((Below.refl _ _).alloc (Nat.le_refl _) _).alloc (by simp) _⟩
  · by_cases h2 : a.T = b.T
    · have h2b : (a.T == b.T) = true := by simpa using h2
      have hh : Hid (afterB a b = decide (b.R < a.R)) := by unfold Hid afterB; simp [h2]
      clear h2
      go_enter Tryz.func64, Tryz.ntmps64
      go_wp2
      go_ret
      exact ⟨ret_bool hh.out.symm, ((Below.refl _ _).alloc (Nat.le_refl _) _).alloc (by simp) _⟩
    · have h2b : (a.T == b.T) = false := by simpa using h2
      have hh : Hid (afterB a b = false) := by unfold Hid afterB; simp [h1, h2]
      clear h2
      go_enter Tryz.func64, Tryz.ntmps64
      go_wp2
      go_ret
      exact ⟨ret_bool hh.out.symm, ((Below.refl _ _).alloc (Nat.le_refl _) _).alloc (by simp) _⟩
end Go.Proofs.YtffcpmohanhihaaGreatDoor
