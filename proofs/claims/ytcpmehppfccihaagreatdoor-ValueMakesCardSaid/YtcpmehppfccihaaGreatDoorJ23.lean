/-
  A region whose order is open, with an append in it: what each operation gave, each thing staying as memory grows and as one row is written behind its end. No condition.
  What stands between two rounds of the reference's Copy. No condition.
-/
import Derived.Test.YtcpmehppfccihaaGreatDoorJ16
import Derived.Maps.AppendAt
namespace Go.Proofs.YtcpmehppfccihaaGreatDoor
open Go.RowKit
set_option linter.unusedVariables false
set_option linter.unusedSimpArgs false
set_option linter.unusedSectionVars false
theorem grown_of {w w' : World} (h : Below w.heap.size w w') (row : Option Nat) : w.grownBy w' row := ⟨h.os, h.tape, h.output, h.size, fun k hk _ => h.block k hk⟩
theorem below_of_grown {w w' : World} {row : Option Nat} {B : Nat} (h : w.grownBy w' row) (hB : B ≤ w.heap.size) (hr : ∀ k, row = some k → B ≤ k) : Below B w w' := ⟨h.os, h.tape, h.output, h.size, fun k hk => h.block k (by omega) (fun e => by have := hr k e.symm; omega)⟩
theorem grown_then {w w' w'' : World} {row : Option Nat} (h : w.grownBy w' row) (h' : w'.grownBy w'' row) : w.grownBy w'' row := ⟨h'.os.trans h.os, h'.tape.trans h.tape, h'.output.trans h.output, Nat.le_trans h.size h'.size, fun k hk hr => (h'.block k (Nat.lt_of_lt_of_le hk h.size) hr).trans (h.block k hk hr)⟩
/-- What each of the first n operations gave is as R says; till the append (number ia) has come nothing old is written. -/
structure EnvG (w0 : World) (row : Option Nat) (n ia : Nat) (R : Nat → Value → World → Prop) (θ : Nat → Value) (L : Nat → Bool) (W : World) : Prop where
  grown : w0.grownBy W row
  below : L ia = false → Below w0.heap.size w0 W
  told : ∀ i, i < n → L i = true → R i (θ i) W
def StabG (w0 : World) (row : Option Nat) (R : Nat → Value → World → Prop) : Prop := ∀ i v W W', w0.grownBy W row → R i v W → W.grownBy W' row → R i v W'
section
variable {w0 : World} {row : Option Nat} {n ia : Nat} {R : Nat → Value → World → Prop} {θ : Nat → Value} {L : Nat → Bool} {W W' : World}
theorem EnvG.start : ∃ θ, EnvG w0 row n ia R θ (fun _ => false) { w0 with drawn := w0.drawn + 1 } := ⟨fun _ => undef, grown_of (Below.refl _ _).drew row, fun _ => (Below.refl _ _).drew, fun i _ h => by cases h⟩
theorem EnvG.put (hs : StabG w0 row R) (h : EnvG w0 row n ia R θ L W) {i : Nat} {v : Value} (hb : Below W.heap.size W W') (hi : i ≠ ia) (hR : R i v W') : EnvG w0 row n ia R (updV θ i v) (updL L i) W' := by
  refine ⟨grown_then h.grown (grown_of hb row), fun hl => ?_, fun j hj hl => ?_⟩
  · rw [updL_ne _ (Ne.symm hi)] at hl
    exact (h.below hl).trans (hb.mono (h.below hl).size)
  · by_cases hji : j = i
    · subst hji; rw [updV_same]; exact hR
    · rw [updV_ne _ _ hji]
      rw [updL_ne _ hji] at hl
      exact hs j _ W W' h.grown (h.told j hj hl) (grown_of hb row)
theorem EnvG.keep (hs : StabG w0 row R) (h : EnvG w0 row n ia R θ L W) {i : Nat} {v : Value} (hi : i ≠ ia) (hR : R i v W) : EnvG w0 row n ia R (updV θ i v) (updL L i) W := h.put hs (Below.refl _ _) hi hR
theorem EnvG.app (hs : StabG w0 row R) (h : EnvG w0 row n ia R θ L W) {v : Value} (hb : W.grownBy W' row) (hR : R ia v W') : EnvG w0 row n ia R (updV θ ia v) (updL L ia) W' := by
  refine ⟨grown_then h.grown hb, fun hl => ?_, fun j hj hl => ?_⟩
  · rw [updL_same] at hl; cases hl
  · by_cases hji : j = ia
    · subst hji; rw [updV_same]; exact hR
    · rw [updV_ne _ _ hji]
      rw [updL_ne _ hji] at hl
      exact hs j _ W W' h.grown (h.told j hj hl) hb
end
section
variable {P : Program} {o : Oper} {a : Act} {w : World} {R : Value → World → Prop}
/-- An append of one thing that lies in a row of its own. -/
theorem gives_append (s x : Operand) (t e : TypeId) (ho : o.op = .call { callee := .builtin .append, args := #[s, x], argTypes := #[t, t] }) (base : Nat) (i : TypeInfo) (z : Value) (size bytes : Nat) (ht : P.underlying t = some (.slice e)) (hi : P.info? e = some i) (hz : i.zero = some z)
    (hsize : i.size = size) (hby : i.bytes = bytes) (hzs : z.cells.size = size) (hsz : 0 < size) (v : Value) (n : Nat) (xs : List Value) (hs : a.eval s = v) (hown : w.ownsRow base e size v n xs)
    (b m c : Nat) (cs : Array Value) (fr : Nat × Nat) (T : TypeId) (hx : a.eval x = .slice (some ⟨b, 0, none⟩) m c) (hl : cs.size = m * size) (hb : w.heap[b]? = some (.cells cs T fr)) (h1 : ∀ u ∈ cs.toList, u.oneCell' = true)
    (h63 : n + m ≤ maxLen) (hbytes : (n + m) * bytes ≤ 140737488355328) (hbase : base ≤ w.heap.size)
    (h : ∀ v' w', w'.ownsRow base e size v' (n + m) (xs ++ cs.toList) → w.grownBy w' v.ownBlock → (v'.ownBlock = v.ownBlock ∨ v'.ownBlock = some w.heap.size) → R v' w') : gives P o a w R := by
  obtain ⟨v', w', hr, h2, h3, h4, h5⟩ := run_append_own_at (P := P) w base t o.type e i z size bytes ht hi hz hsize hby hzs hsz v n xs hown ⟨b, 0, none⟩ m c cs.toList (by rw [Array.length_toList]; exact hl) (fun j u hu => by
    rw [add_at, Nat.zero_add, cell_of_row w b j cs T fr hb, ← Array.getElem?_toList]
    exact hu) h1 h63 hbytes hbase
  unfold gives execOp
  simp only [ho, resolve, invoke, builtin, Sem.run_bind, Sem.run_pure, Result.andThen_ok, List.map_toArray, List.map_cons, List.map_nil, hs, hx, hr]
  exact h v' w' h2 h3 h5
end
/-- A tree like another one, at blocks from B on. -/
structure Cpy (B : Nat) (x y : VT) (W : World) : Prop where
  same : sameV y x = true
  tin : VT.In W.heap.size W y
  at_ : VT.At (fun b => B ≤ b) y
theorem Cpy.low {B B' : Nat} {x y : VT} {W : World} (h : Cpy B x y W) (hB : B' ≤ B) : Cpy B' x y W := ⟨h.same, h.tin, h.at_.imp fun _ hb => Nat.le_trans hB hb⟩
theorem Cpy.step {B : Nat} {x y : VT} {W W' : World} (h : Cpy B x y W) (hb : Below W.heap.size W W') : Cpy B x y W' := ⟨h.same, (h.tin.move hb).up hb.size, h.at_⟩
theorem Cpy.grown {B : Nat} {x y : VT} {W W' : World} {row : Option Nat} (h : Cpy B x y W) (hb : W.grownBy W' row) (hr : VT.At (fun b => row ≠ some b) y) : Cpy B x y W' :=
  ⟨h.same, (h.tin.keep (h.tin.at_.and hr) (fun b hb' => hb.block b hb'.1 (fun e => hb'.2 e.symm))).up hb.size, h.at_⟩
end Go.Proofs.YtcpmehppfccihaaGreatDoor
namespace Go.Proofs.YtcpmehppfccihaaGreatDoor
open Go.RowKit
set_option linter.unusedVariables false
set_option linter.unusedSimpArgs false
set_option linter.unusedSectionVars false
theorem flatL_congr {F G : Nat → List Value} {n : Nat} (h : ∀ k, k < n → F k = G k) : flatL F n = flatL G n := by
  induction n with
  | zero => rfl
  | succ n ih => rw [flatL_succ, flatL_succ, ih (fun k hk => h k (by omega)), h n (by omega)]
theorem own_at {w : World} {base : Nat} {e : TypeId} {size : Nat} {v : Value} {n : Nat} {xs : List Value} (h : w.ownsRow base e size v n xs) {g : Nat} (hg : v.ownBlock = some g) : base ≤ g ∧ g < w.heap.size := by
  rcases h.2 with ⟨rfl, _⟩ | ⟨g', cap, cur, rfl, hb, hr, _⟩
  · cases hg
  · have : g' = g := Option.some.inj hg
    subst this
    exact ⟨hb, (Array.getElem?_eq_some_iff.1 hr).1⟩
theorem grown_put {w w' : World} {g : Nat} (hb : Below g w w') (ho : ∀ k, k ≠ g → w'.heap[k]? = w.heap[k]?) (hs : w'.heap.size = w.heap.size) : w.grownBy w' (some g) := ⟨hb.os, hb.tape, hb.output, Nat.le_of_eq hs.symm, fun k _ hk => ho k (fun e => hk (by rw [e]))⟩
theorem own_not {v : Value} {row : Option Nat} (h : ∀ b, v.ownBlock = some b → row ≠ some b) : v.ownBlock = none ∨ v.ownBlock ≠ row := by
  cases hv : v.ownBlock with
  | none => exact .inl rfl
  | some b => exact .inr (fun e => h b hv e.symm)
def outC (t : VT) (sL sM : Value) : Array Value := #[.int .i64 t.k, .int .i64 t.n, .string t.s, sL, sM]
structure RcI (t : VT) (w : World) (i j : Nat) (sL sM : Value) (F G : Nat → VT) (W : World) : Prop where
  below : Below w.heap.size w W
  box : W.heap[w.heap.size]? = some (.cells t.c 27 (0, 0))
  res : W.heap[w.heap.size + 1]? = some (.cells VT.no.c 27 (0, 0))
  out : W.heap[w.heap.size + 2]? = some (.cells (outC t sL sM) 27 (0, 0))
  size : w.heap.size + 3 ≤ W.heap.size
  ownL : W.ownsRow (w.heap.size + 3) 27 5 sL i (flatL (fun k => (F k).c.toList) i)
  ownM : W.ownsRow (w.heap.size + 3) 34 6 sM j (flatL (fun k => (pcK (t.key k) (G k)).toList) j)
  ne : ∀ b, sL.ownBlock = some b → sM.ownBlock ≠ some b
  cL : ∀ k, k < i → Cpy (w.heap.size + 3) (t.lt k) (F k) W ∧ VT.At (fun b => sL.ownBlock ≠ some b ∧ sM.ownBlock ≠ some b) (F k)
  cM : ∀ k, k < j → Cpy (w.heap.size + 3) (t.mt k) (G k) W ∧ VT.At (fun b => sL.ownBlock ≠ some b ∧ sM.ownBlock ≠ some b) (G k)
section
variable {t : VT} {w W W1 W2 W3 : World} {i j : Nat} {sL sM v' : Value} {F G : Nat → VT} {y : VT}
/-- What keeps a child through one round: an append to the row of s, a store into the value made. -/
theorem child_keep {x f : VT} {s o : Value} (hs : ∀ b, s.ownBlock = some b → b < W.heap.size) (hsz : w.heap.size + 3 ≤ W.heap.size) (h : Cpy (w.heap.size + 3) x f W ∧ VT.At (fun b => s.ownBlock ≠ some b ∧ o.ownBlock ≠ some b) f) (h1 : Below W.heap.size W W1) (h2 : W1.grownBy W2 s.ownBlock) (h3 : W2.grownBy W3 (some (w.heap.size + 2))) (hat : v'.ownBlock = s.ownBlock ∨ v'.ownBlock = some W1.heap.size) :
    Cpy (w.heap.size + 3) x f W3 ∧ VT.At (fun b => v'.ownBlock ≠ some b ∧ o.ownBlock ≠ some b) f := by
  have hin := h.1.tin.at_
  refine ⟨((h.1.step h1).grown h2 (h.2.imp fun b hb => hb.1)).grown h3 (h.1.at_.imp fun b hb e => by have := Option.some.inj e; omega), (h.2.and hin).imp fun b hb => ⟨fun e => ?_, hb.1.2⟩⟩
  rcases hat with hat | hat
  · exact hb.1.1 (hat.symm.trans e)
  · have := Option.some.inj (hat.symm.trans e)
    have := h1.size
    omega
theorem child_new {x : VT} {s o : Value} (hs : ∀ b, s.ownBlock = some b → b < W.heap.size) (ho : ∀ b, o.ownBlock = some b → b < W.heap.size) (hsz : w.heap.size + 3 ≤ W.heap.size) (hy : Cpy W.heap.size x y W1) (h2 : W1.grownBy W2 s.ownBlock) (h3 : W2.grownBy W3 (some (w.heap.size + 2))) (hat : v'.ownBlock = s.ownBlock ∨ v'.ownBlock = some W1.heap.size) :
    Cpy (w.heap.size + 3) x y W3 ∧ VT.At (fun b => v'.ownBlock ≠ some b ∧ o.ownBlock ≠ some b) y := by
  refine ⟨((hy.low hsz).grown h2 (hy.at_.imp fun b hb e => by have := hs b e; omega)).grown h3 (hy.at_.imp fun b hb e => by have := Option.some.inj e; omega), (hy.at_.and hy.tin.at_).imp fun b hb => ⟨fun e => ?_, fun e => by have := ho b e; omega⟩⟩
  rcases hat with hat | hat
  · have := hs b (hat.symm.trans e); omega
  · have := Option.some.inj (hat.symm.trans e); omega
theorem RcI.nextL (h : RcI t w i j sL sM F G W) (h1 : Below W.heap.size W W1) (hy : Cpy W.heap.size (t.lt i) y W1) (hown : W2.ownsRow (w.heap.size + 3) 27 5 v' (i + 1) (flatL (fun k => (F k).c.toList) i ++ y.c.toList)) (h2 : W1.grownBy W2 sL.ownBlock) (hat : v'.ownBlock = sL.ownBlock ∨ v'.ownBlock = some W1.heap.size)
    (hn : W3.heap[w.heap.size + 2]? = some (.cells (outC t v' sM) 27 (0, 0))) (hb : Below (w.heap.size + 2) W2 W3) (ho : ∀ k, k ≠ w.heap.size + 2 → W3.heap[k]? = W2.heap[k]?) (hs : W3.heap.size = W2.heap.size) : RcI t w (i + 1) j v' sM (updT F i y) G W3 := by
  have h3 := grown_put hb ho hs
  have hsz := h.size
  have hz1 := h1.size
  have hz2 := h2.size
  have kL : ∀ b, sL.ownBlock = some b → b < W.heap.size := fun b e => (own_at h.ownL e).2
  have kM : ∀ b, sM.ownBlock = some b → b < W.heap.size := fun b e => (own_at h.ownM e).2
  have keep : ∀ b, b < w.heap.size + 2 → W3.heap[b]? = W.heap[b]? := fun b hb => (ho b (by omega)).trans ((h2.block b (by omega) (fun e => by have := (own_at h.ownL e.symm).1; omega)).trans (h1.block b (by omega)))
  refine ⟨?_, (keep _ (by omega)).trans h.box, (keep _ (by omega)).trans h.res, hn, by omega, ?_, ?_, fun b e => ?_, fun k hk => ?_, fun k hk => ?_⟩
  · refine ⟨h3.os.trans (h2.os.trans (h1.os.trans h.below.os)), h3.tape.trans (h2.tape.trans (h1.tape.trans h.below.tape)), h3.output.trans (h2.output.trans (h1.output.trans h.below.output)), by have := h.below.size; omega, fun b hb => (keep b (by omega)).trans (h.below.block b hb)⟩
  · have e : flatL (fun k => (updT F i y k).c.toList) (i + 1) = flatL (fun k => (F k).c.toList) i ++ y.c.toList := by
      rw [flatL_succ, updT_same, flatL_congr (fun k hk => by rw [updT_ne _ _ (by omega)])]
    rw [e]
    exact hown.kept h3 (.inr (fun e => by have := (own_at hown e).1; omega))
  · exact ((h.ownM.kept (grown_of h1 none) (own_not fun b _ e => by cases e)).kept h2 (own_not fun b hb e => h.ne b e hb)).kept h3 (.inr (fun e => by have := (own_at h.ownM e).1; omega))
  · rcases hat with hat | hat
    · exact h.ne b (hat.symm.trans e)
    · have := Option.some.inj (hat.symm.trans e)
      exact fun e' => by have := kM b e'; omega
  · by_cases hki : k = i
    · subst hki
      rw [updT_same]
      exact child_new kL kM hsz hy h2 h3 hat
    · rw [updT_ne _ _ hki]
      exact child_keep kL hsz (h.cL k (by omega)) h1 h2 h3 hat
  · exact child_keep kL hsz (h.cM k hk) h1 h2 h3 hat
theorem RcI.nextM (h : RcI t w i j sL sM F G W) (h1 : Below W.heap.size W W1) (hy : Cpy W.heap.size (t.mt j) y W1) (hown : W2.ownsRow (w.heap.size + 3) 34 6 v' (j + 1) (flatL (fun k => (pcK (t.key k) (G k)).toList) j ++ (pcK (t.key j) y).toList)) (h2 : W1.grownBy W2 sM.ownBlock) (hat : v'.ownBlock = sM.ownBlock ∨ v'.ownBlock = some W1.heap.size)
    (hn : W3.heap[w.heap.size + 2]? = some (.cells (outC t sL v') 27 (0, 0))) (hb : Below (w.heap.size + 2) W2 W3) (ho : ∀ k, k ≠ w.heap.size + 2 → W3.heap[k]? = W2.heap[k]?) (hs : W3.heap.size = W2.heap.size) : RcI t w i (j + 1) sL v' F (updT G j y) W3 := by
  have h3 := grown_put hb ho hs
  have hsz := h.size
  have hz1 := h1.size
  have hz2 := h2.size
  have kL : ∀ b, sL.ownBlock = some b → b < W.heap.size := fun b e => (own_at h.ownL e).2
  have kM : ∀ b, sM.ownBlock = some b → b < W.heap.size := fun b e => (own_at h.ownM e).2
  have keep : ∀ b, b < w.heap.size + 2 → W3.heap[b]? = W.heap[b]? := fun b hb => (ho b (by omega)).trans ((h2.block b (by omega) (fun e => by have := (own_at h.ownM e.symm).1; omega)).trans (h1.block b (by omega)))
  refine ⟨?_, (keep _ (by omega)).trans h.box, (keep _ (by omega)).trans h.res, hn, by omega, ?_, ?_, fun b e e' => ?_, fun k hk => ?_, fun k hk => ?_⟩
  · refine ⟨h3.os.trans (h2.os.trans (h1.os.trans h.below.os)), h3.tape.trans (h2.tape.trans (h1.tape.trans h.below.tape)), h3.output.trans (h2.output.trans (h1.output.trans h.below.output)), by have := h.below.size; omega, fun b hb => (keep b (by omega)).trans (h.below.block b hb)⟩
  · exact ((h.ownL.kept (grown_of h1 none) (own_not fun b _ e => by cases e)).kept h2 (own_not fun b hb e => h.ne b hb e)).kept h3 (.inr (fun e => by have := (own_at h.ownL e).1; omega))
  · have e : flatL (fun k => (pcK (t.key k) (updT G j y k)).toList) (j + 1) = flatL (fun k => (pcK (t.key k) (G k)).toList) j ++ (pcK (t.key j) y).toList := by
      rw [flatL_succ, updT_same, flatL_congr (fun k hk => by rw [updT_ne _ _ (by omega)])]
    rw [e]
    exact hown.kept h3 (.inr (fun e => by have := (own_at hown e).1; omega))
  · rcases hat with hat | hat
    · exact h.ne b e (hat.symm.trans e')
    · have := Option.some.inj (hat.symm.trans e')
      have := kL b e
      omega
  · have h0 := h.cL k hk
    obtain ⟨k1, k2⟩ := child_keep (o := sL) kM hsz ⟨h0.1, h0.2.imp fun b hb => ⟨hb.2, hb.1⟩⟩ h1 h2 h3 hat
    exact ⟨k1, k2.imp fun b hb => ⟨hb.2, hb.1⟩⟩
  · by_cases hkj : k = j
    · subst hkj
      rw [updT_same]
      obtain ⟨k1, k2⟩ := child_new (o := sL) kM kL hsz hy h2 h3 hat
      exact ⟨k1, k2.imp fun b hb => ⟨hb.2, hb.1⟩⟩
    · rw [updT_ne _ _ hkj]
      have h0 := h.cM k (by omega)
      obtain ⟨k1, k2⟩ := child_keep (o := sL) kM hsz ⟨h0.1, h0.2.imp fun b hb => ⟨hb.2, hb.1⟩⟩ h1 h2 h3 hat
      exact ⟨k1, k2.imp fun b hb => ⟨hb.2, hb.1⟩⟩
/-- A row that is one's own, as a slice over a block. -/
theorem cl_own {W : World} {T : TypeId} {sz B n : Nat} {E : Nat → Array Value} {v : Value} (h0 : 0 < sz) (hE : ∀ i, ((E i).toList).length = sz) (h : W.ownsRow B T sz v n (flatL (fun i => (E i).toList) n)) : Cl T sz B n E v W := by
  by_cases hv : v = .slice none 0 0
  · rcases h.2 with ⟨_, rfl⟩ | ⟨g, cap, cur, e, _⟩
    · rw [hv]; exact cl_nil
    · rw [hv] at e; cases e
  · exact cl_of_row h0 hE h hv
theorem RcI.end_ (ht : VT.Here w.heap.size w t) (h : RcI t w t.ln t.mn sL sM F G W) (ho : ∀ k, k ≠ w.heap.size + 1 → W3.heap[k]? = W.heap[k]?) (hs : W3.heap.size = W.heap.size) : ∃ y : VT, outC t sL sM = y.c ∧ Cpy w.heap.size t y W3 := by
  obtain ⟨A1, g1, c1, cu1, e1, f1⟩ := cl_own (sz := 5) (E := fun k => (F k).c) (by decide) (fun i => rfl) h.ownL
  obtain ⟨A2, g2, c2, cu2, e2, f2⟩ := cl_own (sz := 6) (E := fun k => pcK (t.key k) (G k)) (by decide) (fun i => rfl) h.ownM
  have hsz := h.size
  have hat : VT.At (fun b => w.heap.size + 3 ≤ b) (.mk t.k t.n t.s A1 g1 0 t.ln c1 F A2 g2 0 t.mn c2 t.key G) := .mk (fun hn => (f1 hn).2.1) (fun hn => (f2 hn).2.1) (fun k hk => (h.cL k hk).1.at_) (fun k hk => (h.cM k hk).1.at_)
  refine ⟨.mk t.k t.n t.s A1 g1 0 t.ln c1 F A2 g2 0 t.mn c2 t.key G, by rw [e1, e2]; rfl, ?_, ?_, hat.imp fun b hb => by omega⟩
  · rw [sameV_iff]
    exact ⟨rfl, rfl, rfl, rfl, rfl, fun k hk => (h.cL k hk).1.same, fun k hk => ⟨rfl, (h.cM k hk).1.same⟩⟩
  · rw [hs]
    refine VT.In.but (w := W) ?_ (hat.imp fun b hb => by omega) ho
    refine .mk ⟨ht.n0, ht.n1, ht.k0, ht.k1, ht.sl, ht.ll, ht.ml, fun hn => ⟨(f1 hn).1, (Array.getElem?_eq_some_iff.1 (f1 hn).2.2.1).1⟩, fun hn => ⟨(f2 hn).1, (Array.getElem?_eq_some_iff.1 (f2 hn).2.2.1).1⟩, ?_, ?_, ht.kl⟩ (fun k hk => (h.cL k hk).1.tin) (fun k hk => (h.cM k hk).1.tin)
    · intro k hk q u hu
      have hk' : k < t.ln := hk
      obtain ⟨_, _, hr, _, _, hcu⟩ := f1 (by omega)
      refine (cell_of_row _ _ _ _ _ _ hr).trans ?_
      show cu1[0 + k * 5 + q]? = some u
      rw [show (0 : Nat) + k * 5 + q = k * 5 + q by omega]
      exact hcu k hk' q u hu
    · intro k hk q u hu
      have hk' : k < t.mn := hk
      obtain ⟨_, _, hr, _, _, hcu⟩ := f2 (by omega)
      refine (cell_of_row _ _ _ _ _ _ hr).trans ?_
      show cu2[0 + k * 6 + q]? = some u
      rw [show (0 : Nat) + k * 6 + q = k * 6 + q by omega]
      exact hcu k hk' q u hu
end
end Go.Proofs.YtcpmehppfccihaaGreatDoor
