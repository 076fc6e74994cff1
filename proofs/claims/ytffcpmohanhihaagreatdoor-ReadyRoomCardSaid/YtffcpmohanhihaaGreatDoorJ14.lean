/-
  A value that came in, read as data, is a tree that lies in memory. No condition.
  A region whose order is open: what each operation gave, each thing staying as memory grows; rows made by a slice's literal. No condition.
  An append of what lies in a row of its own, in a statement whose order is open. No condition.
  A slice that came in, read as data, is a row of elements, each read as data. No condition.
  Slices of whole numbers that came in, read as data. No condition.
-/
import Derived.Test.YtffcpmohanhihaaGreatDoorJ11
import Derived.ChangeArms
import Derived.ChangeSame
import Derived.OpenShut
import Derived.Deep.Slices
import Derived.Carry
import Derived.Test.YtffcpmohanhihaaGreatDoorJ15
import Derived.Test.YtffcpmohanhihaaGreatDoorJ6
import Derived.Maps.AppendAt
namespace Go.Proofs.YtffcpmohanhihaaGreatDoor
open Go.RowKit Go.ChangeShapes
set_option linter.unusedVariables false
set_option linter.unusedSimpArgs false
set_option linter.unusedSectionVars false
theorem wf_i64 {n : Int} (h : (Lit.int .i64 n).wf = true) : -9223372036854775808 ≤ n ∧ n ≤ 9223372036854775807 := by
  have h2 : (decide (IntKind.i64.min ≤ n) && decide (n ≤ IntKind.i64.max)) = true := h
  have e1 : IntKind.i64.min = -9223372036854775808 := by decide
  have e2 : IntKind.i64.max = 9223372036854775807 := by decide
  rw [e1, e2] at h2
  simpa using h2
section
variable {H : Type} {enc : TypeId × Value → H} {W : World} {base : Nat} {spare : Nat → Bool} {held : Bool}
theorem cellsV : Tryz.prog.cellsOf 38 = 5 := by kernel_rfl
theorem cellsP : Tryz.prog.cellsOf 82 = 6 := by kernel_rfl
theorem cellsK : Tryz.prog.cellsOf 34 = 1 := by kernel_rfl
theorem cellsI : Tryz.prog.cellsOf 2 = 1 := by kernel_rfl
theorem cellsS : Tryz.prog.cellsOf 9 = 1 := by kernel_rfl
theorem cellsL : Tryz.prog.cellsOf 35 = 1 := by kernel_rfl
theorem cellsM : Tryz.prog.cellsOf 36 = 1 := by kernel_rfl
/-- Where elements of so many cells lie. -/
theorem row_at {a : Addr} {len sz : Nat} (hsz : 0 < sz) (hlen : 0 < len) {C : Nat → List Value} (hC : ∀ i, i < len → W.cells? base (a.add (i * sz)) sz = some (C i)) :
    a = ⟨a.block, a.off, none⟩ ∧ a.block < W.heap.size ∧ ∀ i, i < len → ∀ j v, (C i)[j]? = some v → W.cell? ⟨a.block, a.off + i * sz + j, none⟩ = some v := by
  have h0 := World.cells?_some (hC 0 hlen)
  have hc0 := h0.2.2 0 hsz
  have hl0 := h0.2.1
  rw [List.getElem?_eq_getElem (by omega)] at hc0
  have e0 : (a.add (0 * sz)).add 0 = a := by simp [Addr.add]
  rw [e0] at hc0
  have hspot : a.spot = none := by
    unfold World.cell? at hc0
    split at hc0
    · split at hc0
      · cases hc0
      · rename_i hs; cases h : a.spot <;> simp_all
    · cases hc0
  have hblk := World.block_lt_of_cell? W a hc0
  obtain ⟨b, o, s⟩ := a
  simp only at hspot hblk ⊢
  subst hspot
  refine ⟨rfl, hblk, fun i hi j v hv => ?_⟩
  have h1 := World.cells?_some (hC i hi)
  have hj : j < sz := by rw [← h1.2.1]; exact (List.getElem?_eq_some_iff.1 hv).1
  have h2 := h1.2.2 j hj
  rw [hv] at h2
  rw [← h2]
  congr 1
  unfold Addr.add
  by_cases q1 : i * sz = 0 <;> by_cases q2 : j = 0 <;> simp [q1, q2] <;> omega
theorem five {cs : List Value} (h : cs.length = 5) : ∃ a b c d e, cs = [a, b, c, d, e] := by
  match cs, h with
  | [a, b, c, d, e], _ => exact ⟨a, b, c, d, e, rfl⟩
theorem open_val : ∀ (fuel : Nat) (cs : List Value) (x : DataW H × List MemPlace), DataW.trod enc Tryz.prog W base spare held fuel 38 cs = some x → ∃ t : VT, cs = t.c.toList ∧ VT.In W.heap.size W t := by
  intro fuel
  induction fuel using Nat.strongRecOn with
  | _ fuel ih =>
    intro cs x h
    obtain ⟨xs, n, rfl, rfl, hl, hlen, hf⟩ := DataW.trod_struct Tryz.underlying38 h
    rw [cellsV] at hl
    obtain ⟨c0, c1, c2, c3, c4, rfl⟩ := five hl
    have g : ∀ i : Nat, i < 5 → ∃ y, xs[i]? = some y := fun i hi => ⟨xs[i]'(by rw [hlen]; exact hi), List.getElem?_eq_getElem _⟩
    obtain ⟨y0, e0⟩ := g 0 (by decide)
    obtain ⟨y1, e1⟩ := g 1 (by decide)
    obtain ⟨y2, e2⟩ := g 2 (by decide)
    obtain ⟨y3, e3⟩ := g 3 (by decide)
    obtain ⟨y4, e4⟩ := g 4 (by decide)
    have h0 : DataW.trod enc Tryz.prog W base spare held n 34 (([c0, c1, c2, c3, c4].drop 0).take (Tryz.prog.cellsOf 34)) = some y0 := (hf 0 _ rfl).trans e0
    have h1 : DataW.trod enc Tryz.prog W base spare held n 2 (([c0, c1, c2, c3, c4].drop 1).take (Tryz.prog.cellsOf 2)) = some y1 := (hf 1 _ rfl).trans e1
    have h2 : DataW.trod enc Tryz.prog W base spare held n 9 (([c0, c1, c2, c3, c4].drop 2).take (Tryz.prog.cellsOf 9)) = some y2 := (hf 2 _ rfl).trans e2
    have h3 : DataW.trod enc Tryz.prog W base spare held n 35 (([c0, c1, c2, c3, c4].drop 3).take (Tryz.prog.cellsOf 35)) = some y3 := (hf 3 _ rfl).trans e3
    have h4 : DataW.trod enc Tryz.prog W base spare held n 36 (([c0, c1, c2, c3, c4].drop 4).take (Tryz.prog.cellsOf 36)) = some y4 := (hf 4 _ rfl).trans e4
    simp only [cellsK, cellsI, cellsS, cellsL, cellsM, List.drop_succ_cons, List.drop_zero, List.take_succ_cons, List.take_zero] at h0 h1 h2 h3 h4
    obtain ⟨k, hk, _, wk⟩ := DataW.trod_int Tryz.underlying34 h0
    obtain ⟨m, hm, _, wm⟩ := DataW.trod_int Tryz.underlying2 h1
    obtain ⟨s, hs, _, hsz⟩ := DataW.trod_string Tryz.underlying9 h2
    have wk := wf_i64 wk
    have wm := wf_i64 wm
    have hL : ∃ (A : Option Addr) (b o len cap : Nat) (T : Nat → VT), c3 = .slice A len cap ∧ len ≤ 9223372036854775807 ∧ (0 < len → A = some ⟨b, o, none⟩ ∧ b < W.heap.size) ∧ (∀ i, i < len → ∀ j v, (VT.c (T i))[j]? = some v → W.cell? ⟨b, o + i * 5 + j, none⟩ = some v) ∧ ∀ i, i < len → VT.In W.heap.size W (T i) := by
      rcases DataW.trod_slice Tryz.underlying35 h3 with ⟨hc, _⟩ | ⟨a, len, cap, elems, rst, n', hn, hc, _, hb, hlc, hcap, hel, he, _, _⟩
      · exact ⟨none, 0, 0, 0, 0, fun _ => .no, by simpa using hc, by decide, fun h => absurd h (by decide), fun i hi => absurd hi (Nat.not_lt_zero i), fun i hi => absurd hi (Nat.not_lt_zero i)⟩
      · have key : ∀ i, i < len → ∃ t : VT, W.cells? base (a.add (i * 5)) 5 = some t.c.toList ∧ VT.In W.heap.size W t := by
          intro i hi
          have := he i hi
          rw [List.getElem?_eq_getElem (by omega), cellsV] at this
          obtain ⟨cs', q1, q2⟩ := Option.bind_eq_some_iff.1 this
          obtain ⟨t, rfl, ht⟩ := ih n' (by omega) cs' _ q2
          exact ⟨t, q1, ht⟩
        have inh : Inhabited VT := ⟨.no⟩
        obtain ⟨T, hT⟩ := Go.Deep.choose_lt key
        have hm63 : len ≤ 9223372036854775807 := by
          have : maxLen = 9223372036854775807 := by decide
          omega
        rcases Nat.eq_zero_or_pos len with h0 | h0
        · subst h0
          exact ⟨some a, 0, 0, 0, cap, T, by simpa using hc, by decide, fun h => absurd h (by decide), fun i hi => absurd hi (Nat.not_lt_zero i), fun i hi => absurd hi (Nat.not_lt_zero i)⟩
        · obtain ⟨r1, r2, r3⟩ := row_at (sz := 5) (by decide) h0 (C := fun i => (T i).c.toList) (fun i hi => (hT i hi).1)
          exact ⟨some a, a.block, a.off, len, cap, T, by simpa using hc, hm63, fun _ => ⟨by rw [← r1], r2⟩, fun i hi j v hv => r3 i hi j v (by simpa using hv), fun i hi => (hT i hi).2⟩
    have hM : ∃ (A : Option Addr) (b o len cap : Nat) (K : Nat → ByteArray) (T : Nat → VT), c4 = .slice A len cap ∧ len ≤ 9223372036854775807 ∧ (0 < len → A = some ⟨b, o, none⟩ ∧ b < W.heap.size) ∧ (∀ i, i < len → ∀ j v, ((Value.string (K i)) :: (VT.c (T i)).toList)[j]? = some v → W.cell? ⟨b, o + i * 6 + j, none⟩ = some v) ∧ (∀ i, i < len → (K i : ByteArray).size ≤ 9223372036854775807) ∧ ∀ i, i < len → VT.In W.heap.size W (T i) := by
      rcases DataW.trod_slice Tryz.underlying36 h4 with ⟨hc, _⟩ | ⟨a, len, cap, elems, rst, n', hn, hc, _, hb, hlc, hcap, hel, he, _, _⟩
      · exact ⟨none, 0, 0, 0, 0, fun _ => ⟨#[]⟩, fun _ => .no, by simpa using hc, by decide, fun h => absurd h (by decide), fun i hi => absurd hi (Nat.not_lt_zero i), fun i hi => absurd hi (Nat.not_lt_zero i), fun i hi => absurd hi (Nat.not_lt_zero i)⟩
      · have key : ∀ i, i < len → ∃ p : ByteArray × VT, W.cells? base (a.add (i * 6)) 6 = some (.string p.1 :: p.2.c.toList) ∧ p.1.size ≤ 9223372036854775807 ∧ VT.In W.heap.size W p.2 := by
          intro i hi
          have := he i hi
          rw [List.getElem?_eq_getElem (by omega), cellsP] at this
          obtain ⟨cs', q1, q2⟩ := Option.bind_eq_some_iff.1 this
          obtain ⟨ys, n2, hn2, _, hl2, hlen2, hf2⟩ := DataW.trod_struct Tryz.underlying82 q2
          rw [cellsP] at hl2
          have z0 : ∃ y, ys[0]? = some y := ⟨ys[0]'(by rw [hlen2]; decide), List.getElem?_eq_getElem _⟩
          have z1 : ∃ y, ys[1]? = some y := ⟨ys[1]'(by rw [hlen2]; decide), List.getElem?_eq_getElem _⟩
          obtain ⟨u0, z0⟩ := z0
          obtain ⟨u1, z1⟩ := z1
          have k0 : DataW.trod enc Tryz.prog W base spare held n2 9 ((cs'.drop 0).take (Tryz.prog.cellsOf 9)) = some u0 := (hf2 0 _ rfl).trans z0
          have k1 : DataW.trod enc Tryz.prog W base spare held n2 38 ((cs'.drop 1).take (Tryz.prog.cellsOf 38)) = some u1 := (hf2 1 _ rfl).trans z1
          obtain ⟨d, ds, rfl⟩ : ∃ d ds, cs' = d :: ds := by
            cases cs' with
            | nil => simp at hl2
            | cons d ds => exact ⟨d, ds, rfl⟩
          · simp only [cellsS, cellsV, List.drop_succ_cons, List.drop_zero, List.take_succ_cons, List.take_zero] at k0 k1
            obtain ⟨ks, hks, _, hksz⟩ := DataW.trod_string Tryz.underlying9 k0
            have hds : ds.length = 5 := by simpa using hl2
            rw [List.take_of_length_le (by omega)] at k1
            obtain ⟨t, rfl, ht⟩ := ih n2 (by omega) ds _ k1
            obtain rfl : d = .string ks := by simpa using hks
            have : maxLen = 9223372036854775807 := by decide
            exact ⟨(ks, t), q1, by simp only; omega, ht⟩
        have inh : Inhabited (ByteArray × VT) := ⟨(⟨#[]⟩, .no)⟩
        obtain ⟨T, hT⟩ := Go.Deep.choose_lt key
        have hm63 : len ≤ 9223372036854775807 := by
          have : maxLen = 9223372036854775807 := by decide
          omega
        rcases Nat.eq_zero_or_pos len with h0 | h0
        · subst h0
          exact ⟨some a, 0, 0, 0, cap, fun i => (T i).1, fun i => (T i).2, by simpa using hc, by decide, fun h => absurd h (by decide), fun i hi => absurd hi (Nat.not_lt_zero i), fun i hi => absurd hi (Nat.not_lt_zero i), fun i hi => absurd hi (Nat.not_lt_zero i)⟩
        · obtain ⟨r1, r2, r3⟩ := row_at (sz := 6) (by decide) h0 (C := fun i => .string (T i).1 :: (T i).2.c.toList) (fun i hi => (hT i hi).1)
          exact ⟨some a, a.block, a.off, len, cap, fun i => (T i).1, fun i => (T i).2, by simpa using hc, hm63, fun _ => ⟨by rw [← r1], r2⟩, fun i hi j v hv => r3 i hi j v hv, fun i hi => (hT i hi).2.1, fun i hi => (hT i hi).2.2⟩
    obtain ⟨A, b, o, len, cap, T, rfl, l1, l2, l3, l4⟩ := hL
    obtain ⟨A', b', o', len', cap', K, T', rfl, m1, m2, m3, m4, m5⟩ := hM
    obtain rfl : c0 = .int .i64 k := by simpa using hk
    obtain rfl : c1 = .int .i64 m := by simpa using hm
    obtain rfl : c2 = .string s := by simpa using hs
    refine ⟨.mk k m s A b o len cap T A' b' o' len' cap' K T', rfl, .mk ⟨wm.1, wm.2, wk.1, wk.2, ?_, l1, m1, l2, m2, l3, ?_, m4⟩ l4 m5⟩
    · have : maxLen = 9223372036854775807 := by decide
      exact this ▸ hsz
    · intro i hi j v hv
      refine m3 i hi j v ?_
      rw [← hv]
      simp [VT.pc, VT.c, VT.key, VT.mt]
end
end Go.Proofs.YtffcpmohanhihaaGreatDoor
namespace Go.Proofs.YtffcpmohanhihaaGreatDoor
open Go.RowKit
set_option linter.unusedVariables false
set_option linter.unusedSimpArgs false
set_option linter.unusedSectionVars false
/-- What each of the first n operations gave is as R says. -/
def EnvC (w0 : World) (n : Nat) (R : Nat → Value → World → Prop) (θ : Nat → Value) (L : Nat → Bool) (W : World) : Prop := Below w0.heap.size w0 W ∧ ∀ i, i < n → L i = true → R i (θ i) W
def Stab (w0 : World) (R : Nat → Value → World → Prop) : Prop := ∀ i v W W', Below w0.heap.size w0 W → R i v W → Below W.heap.size W W' → R i v W'
theorem EnvC.start {w0 : World} {n : Nat} {R : Nat → Value → World → Prop} : ∃ θ, EnvC w0 n R θ (fun _ => false) { w0 with drawn := w0.drawn + 1 } := ⟨fun _ => undef, (Below.refl _ _).drew, fun i _ h => by cases h⟩
theorem EnvC.put {w0 : World} {n : Nat} {R : Nat → Value → World → Prop} {θ : Nat → Value} {L : Nat → Bool} {W W' : World} (hs : Stab w0 R) (h : EnvC w0 n R θ L W) {i : Nat} {v : Value} (hb : Below W.heap.size W W') (hR : R i v W') : EnvC w0 n R (updV θ i v) (updL L i) W' := by
  refine ⟨h.1.trans (hb.mono h.1.size), fun j hj hl => ?_⟩
  by_cases hji : j = i
  · subst hji; rw [updV_same]; exact hR
  · rw [updV_ne _ _ hji]
    rw [updL_ne _ hji] at hl
    exact hs j _ W W' h.1 (h.2 j hj hl) hb
theorem EnvC.keep {w0 : World} {n : Nat} {R : Nat → Value → World → Prop} {θ : Nat → Value} {L : Nat → Bool} {W : World} (hs : Stab w0 R) (h : EnvC w0 n R θ L W) {i : Nat} {v : Value} (hR : R i v W) : EnvC w0 n R (updV θ i v) (updL L i) W := h.put hs (Below.refl _ _) hR
section
variable {P : Program} {o : Oper} {a : Act} {w : World} {R : Value → World → Prop}
theorem gives_load_cells (ty : TypeId) (x : Operand) (ho : o.op = .load ty x) (b i : Nat) (hx : a.eval x = .pointer (some ⟨b, i, none⟩)) (cs : Array Value) (d : TypeDesc) (hc : ∀ j v, cs[j]? = some v → w.cell? ⟨b, i + j, none⟩ = some v)
    (hu : P.underlying ty = some d) (hd : (match d with | .struct _ | .array _ _ => true | _ => false) = true) (hi : (P.info? ty).map (·.size) = some cs.size) (h : R (.agg cs) w) : gives P o a w R := by
  unfold gives execOp
  simp only [ho, hx, Instr.loadAt, Instr.sureAddr, Sem.run_bind, Sem.run_pure, Result.andThen_ok, run_load_cells w b i ty cs d hc hu hd hi]
  exact h
theorem gives_load_cellw (ty : TypeId) (x : Operand) (ho : o.op = .load ty x) (b i : Nat) (hx : a.eval x = .pointer (some ⟨b, i, none⟩)) (u : Value) (d : TypeDesc) (hc : w.cell? ⟨b, i, none⟩ = some u)
    (hu : P.underlying ty = some d) (hd : (match d with | .struct _ | .array _ _ => false | _ => true) = true) (h : R u w) : gives P o a w R := by
  have hagg : (isAgg ty).run P w = .ok false w := by
    unfold isAgg
    rw [Sem.run_bind, run_underlying hu w]
    cases d <;> simp_all
  have hl : (loadVar ty ⟨b, i, none⟩).run P w = .ok u w := by simp [loadVar, Sem.run_bind, hagg, hc]
  unfold gives execOp
  simp only [ho, hx, Instr.loadAt, Instr.sureAddr, Sem.run_bind, Sem.run_pure, Result.andThen_ok, hl]
  exact h
theorem gives_slice (t : TypeId) (len : Nat) (ps : Array (Nat × Operand)) (ho : o.op = .buildSlice t len ps) (vs : Array (Nat × Value)) (hx : ps.map (fun p => (p.1, a.eval p.2)) = vs) (cs : Array Value) (e : TypeId)
    (hr : (Instr.buildSlice t len vs).run P w = .ok (.slice (some ⟨w.heap.size, 0, none⟩) len len) (w.alloc (.cells cs e)))
    (h : R (.slice (some ⟨w.heap.size, 0, none⟩) len len) (w.alloc (.cells cs e))) : gives P o a w R := by
  have hrun : (execOp a.eval o).run P w = .ok (.value (.slice (some ⟨w.heap.size, 0, none⟩) len len)) (w.alloc (.cells cs e)) := by
    unfold execOp
    have hx' : (ps.map fun (i, x) => (i, a.eval x)) = vs := hx
    simp only [ho, Sem.run_bind, hx', hr, Result.andThen_ok, Sem.run_pure]
  unfold gives
  rw [hrun]
  exact h
theorem gives_build (t : TypeId) (ps : Array (Nat × Operand)) (ho : o.op = .build t ps) (vs : Array (Nat × Value)) (hx : ps.map (fun p => (p.1, a.eval p.2)) = vs) (v : Value)
    (hr : ∀ W, (Instr.build t vs).run P W = .ok v W) (h : R v w) : gives P o a w R := by
  have hrun : (execOp a.eval o).run P w = .ok (.value v) w := by
    unfold execOp
    have hx' : (ps.map fun (i, x) => (i, a.eval x)) = vs := hx
    simp only [ho, Sem.run_bind, hx', hr, Result.andThen_ok, Sem.run_pure]
  unfold gives
  rw [hrun]
  exact h
end
section
variable {P : Program} {ops : Array Oper} {rest : List Oper} {o : Oper} {a : Act} {w : World} {Q : Exit → Act → World → Prop}
/-- A row made: the world behind it under a name of its own. -/
theorem slice_arm (hwt : Region.wanted o (yielded ops a.tmps) = true) (t : TypeId) (len : Nat) (ps : Array (Nat × Operand)) (ho : o.op = .buildSlice t len ps) (vs : Array (Nat × Value)) (hx : ps.map (fun p => (p.1, a.eval p.2)) = vs) (cs : Array Value) (e : TypeId)
    (hr : (Instr.buildSlice t len vs).run P w = .ok (.slice (some ⟨w.heap.size, 0, none⟩) len len) (w.alloc (.cells cs e)))
    (h : ∀ w', Below w.heap.size w w' → w'.heap[w.heap.size]? = some (.cells cs e (0, 0)) → wpList P ops Q rest (a.put o.dst (.slice (some ⟨w.heap.size, 0, none⟩) len len)) w') : wpList P ops Q (o :: rest) a w :=
  BigFrame.wpList_want hwt fun K hK => by
    have hrun : (execOp a.eval o).run P w = .ok (.value (.slice (some ⟨w.heap.size, 0, none⟩) len len)) (w.alloc (.cells cs e)) := by
      unfold execOp
      have hx' : (ps.map fun (i, x) => (i, a.eval x)) = vs := hx
      simp only [ho, Sem.run_bind, hx', hr, Result.andThen_ok, Sem.run_pure]
    unfold Oper.wp
    rw [hrun, Oper.upon_value]
    exact hK _ _ (h _ (Below.alloc (Below.refl _ _) (Nat.le_refl _) _) (heap_alloc_new _ _))
/-- A block made: .. and how many there are then. -/
theorem alloc_armz (hwt : Region.wanted o (yielded ops a.tmps) = true) (ty : TypeId) (ho : o.op = .alloc ty) {z : Obj} (hr : (Instr.alloc ty true (.tuple #[])).run P w = .ok (.pointer (some ⟨w.heap.size, 0, none⟩)) (w.alloc z))
    (h : ∀ w', Below w.heap.size w w' → w'.heap[w.heap.size]? = some z → w'.heap.size = w.heap.size + 1 → wpList P ops Q rest (a.put o.dst (.pointer (some ⟨w.heap.size, 0, none⟩))) w') : wpList P ops Q (o :: rest) a w :=
  BigFrame.wpList_want hwt fun K hK => by
    have hrun : (execOp a.eval o).run P w = .ok (.value (.pointer (some ⟨w.heap.size, 0, none⟩))) (w.alloc z) := by
      unfold execOp
      simp only [ho, Sem.run_bind, hr, Result.andThen_ok, Sem.run_pure]
    unfold Oper.wp
    rw [hrun, Oper.upon_value]
    exact hK _ _ (h _ (Below.alloc (Below.refl _ _) (Nat.le_refl _) z) (heap_alloc_new _ _) (Array.size_push ..))
theorem makes_arm (hwt : Region.wanted o (yielded ops a.tmps) = true) (t : TypeId) (l c : Operand) (ho : o.op = .makeSlice t l c) (lv cv : Value) (hl : a.eval l = lv) (hc : a.eval c = cv) (n : Nat) (cs : Array Value) (e : TypeId)
    (hr : (Instr.makeSlice t lv cv).run P w = .ok (.slice (some ⟨w.heap.size, 0, none⟩) n n) (w.alloc (.cells cs e)))
    (h : ∀ w', Below w.heap.size w w' → w'.heap[w.heap.size]? = some (.cells cs e (0, 0)) → wpList P ops Q rest (a.put o.dst (.slice (some ⟨w.heap.size, 0, none⟩) n n)) w') : wpList P ops Q (o :: rest) a w :=
  BigFrame.wpList_want hwt fun K hK => by
    have hrun : (execOp a.eval o).run P w = .ok (.value (.slice (some ⟨w.heap.size, 0, none⟩) n n)) (w.alloc (.cells cs e)) := by
      unfold execOp
      simp only [ho, hl, hc, Sem.run_bind, hr, Result.andThen_ok, Sem.run_pure]
    unfold Oper.wp
    rw [hrun, Oper.upon_value]
    exact hK _ _ (h _ (Below.alloc (Below.refl _ _) (Nat.le_refl _) _) (heap_alloc_new _ _))
theorem conv_arm (hwt : Region.wanted o (yielded ops a.tmps) = true) (src dst : TypeId) (x : Operand) (ho : o.op = .convert src dst x) (xv : Value) (hx : a.eval x = xv) (v : Value)
    (hr : (convert src dst xv).run P w = .ok v w) (h : wpList P ops Q rest (a.put o.dst v) w) : wpList P ops Q (o :: rest) a w :=
  BigFrame.wpList_want hwt fun K hK => by
    have hrun : (execOp a.eval o).run P w = .ok (.value v) w := by
      unfold execOp
      simp only [ho, hx, Sem.run_bind, hr, Result.andThen_ok, Sem.run_pure]
    unfold Oper.wp
    rw [hrun, Oper.upon_value]
    exact hK _ _ h
theorem build_arm (hwt : Region.wanted o (yielded ops a.tmps) = true) (t : TypeId) (ps : Array (Nat × Operand)) (ho : o.op = .build t ps) (vs : Array (Nat × Value)) (hx : ps.map (fun p => (p.1, a.eval p.2)) = vs) (v : Value)
    (hr : (Instr.build t vs).run P w = .ok v w) (h : wpList P ops Q rest (a.put o.dst v) w) : wpList P ops Q (o :: rest) a w :=
  BigFrame.wpList_want hwt fun K hK => by
    have hrun : (execOp a.eval o).run P w = .ok (.value v) w := by
      unfold execOp
      have hx' : (ps.map fun (i, x) => (i, a.eval x)) = vs := hx
      simp only [ho, Sem.run_bind, hx', hr, Result.andThen_ok, Sem.run_pure]
    unfold Oper.wp
    rw [hrun, Oper.upon_value]
    exact hK _ _ h
end
end Go.Proofs.YtffcpmohanhihaaGreatDoor
namespace Go.Proofs.YtffcpmohanhihaaGreatDoor
open Go.RowKit
set_option linter.unusedVariables false
set_option linter.unusedSimpArgs false
set_option linter.unusedSectionVars false
theorem grown_of {w w' : World} (h : Below w.heap.size w w') (row : Option Nat) : w.grownBy w' row := ⟨h.os, h.tape, h.output, h.size, fun k hk _ => h.block k hk⟩
theorem below_of_grown {w w' : World} {row : Option Nat} {B : Nat} (h : w.grownBy w' row) (hB : B ≤ w.heap.size) (hr : ∀ k, row = some k → B ≤ k) : Below B w w' := ⟨h.os, h.tape, h.output, h.size, fun k hk => h.block k (by omega) (fun e => by have := hr k e.symm; omega)⟩
section
variable {P : Program} {o : Oper} {a : Act} {w : World} {R : Value → World → Prop}
/-- An append of one thing that lies in a row of its own. -/
theorem gives_append (s x : Operand) (t e : TypeId) (ho : o.op = .call { callee := .builtin .append, args := #[s, x], argTypes := #[t, t] }) (base : Nat) (i : TypeInfo) (z : Value) (size bytes : Nat) (ht : P.underlying t = some (.slice e)) (hi : P.info? e = some i) (hz : i.zero = some z)
    (hsize : i.size = size) (hby : i.bytes = bytes) (hzs : z.cells.size = size) (hsz : 0 < size) (v : Value) (n : Nat) (xs : List Value) (hs : a.eval s = v) (hown : w.ownsRow base e size v n xs)
    (b m c : Nat) (cs : Array Value) (fr : Nat × Nat) (T : TypeId) (hx : a.eval x = .slice (some ⟨b, 0, none⟩) m c) (hl : cs.size = m * size) (hb : w.heap[b]? = some (.cells cs T fr)) (h1 : ∀ u ∈ cs.toList, u.oneCell' = true)
    (h63 : n + m ≤ maxLen) (hbytes : (n + m) * bytes ≤ 140737488355328) (hbase : base ≤ w.heap.size)
    (h : ∀ v' w', w'.ownsRow base e size v' (n + m) (xs ++ cs.toList) → w.grownBy w' v.ownBlock → (v'.ownBlock = v.ownBlock ∨ v'.ownBlock = some w.heap.size) → R v' w') : gives P o a w R := by
  obtain ⟨v', w', hr, h2, h3, h4, h5⟩ := run_append_own_at (P := P) w base t o.type e i z size bytes ht hi hz hsize hby hzs hsz v n xs hown ⟨b, 0, none⟩ m c cs.toList (by rw [Array.length_toList]; exact hl) (fun j u hu => by
    rw [add_at, Nat.zero_add, cell_of_row w b j cs T fr hb, ← Array.getElem?_toList]
    exact hu) h1 h63 hbytes hbase
  unfold gives execOp
  simp only [ho, resolve, invoke, builtin, Sem.run_bind, Sem.run_pure, Result.andThen_ok, List.map_toArray, List.map_cons, List.map_nil, hs, hx, hr]
  exact h v' w' h2 h3 h5
end
end Go.Proofs.YtffcpmohanhihaaGreatDoor
namespace Go.Proofs.YtffcpmohanhihaaGreatDoor
open Go.RowKit Go.ChangeShapes
set_option linter.unusedVariables false
section
variable {H : Type} {enc : TypeId × Value → H} {W : World} {base : Nat} {spare : Nat → Bool} {held : Bool}
/-- A slice's elements, each told by 'each'. -/
theorem open_slice {T E : TypeId} (ht : Tryz.prog.underlying T = some (.slice E)) {sz : Nat} (hsz : Tryz.prog.cellsOf E = sz) (h0 : 0 < sz) {K : Type} [Inhabited K] (C : K → List Value) (Pk : K → Prop)
    (each : ∀ (n : Nat) cs y, DataW.trod enc Tryz.prog W base spare held n E cs = some y → ∃ x : K, cs = C x ∧ Pk x) {fuel : Nat} {cs : List Value} {x : DataW H × List MemPlace} (h : DataW.trod enc Tryz.prog W base spare held fuel T cs = some x) :
    ∃ (A : Option Addr) (g o c : Nat) (L : List K), cs = [.slice A L.length c] ∧ (0 < L.length → A = some ⟨g, o, none⟩ ∧ g < W.heap.size) ∧ (∀ (i : Nat) x, L[i]? = some x → ∀ (j : Nat) v, (C x)[j]? = some v → W.cell? ⟨g, o + i * sz + j, none⟩ = some v) ∧ (∀ x ∈ L, Pk x) ∧ L.length ≤ 9223372036854775807 := by
  rcases DataW.trod_slice ht h with ⟨hc, _⟩ | ⟨a, len, cap, elems, rst, n', hn, hc, _, hb, hlc, hcap, hel, he, _, _⟩
  · exact ⟨none, 0, 0, 0, [], hc, fun h => absurd h (Nat.lt_irrefl 0), fun i x hx => by simp at hx, fun x hx => absurd hx (List.not_mem_nil), Nat.zero_le _⟩
  · have key : ∀ i, i < len → ∃ t : K, W.cells? base (a.add (i * sz)) sz = some (C t) ∧ Pk t := by
      intro i hi
      have := he i hi
      rw [List.getElem?_eq_getElem (by omega), hsz] at this
      obtain ⟨cs', q1, q2⟩ := Option.bind_eq_some_iff.1 this
      obtain ⟨t, rfl, ht⟩ := each n' cs' _ q2
      exact ⟨t, q1, ht⟩
    obtain ⟨F, hF⟩ := Go.Deep.choose_lt key
    have hL : ((List.range len).map F).length = len := by simp
    have hget : ∀ (i : Nat) x, ((List.range len).map F)[i]? = some x → i < len ∧ F i = x := by
      intro i x hx
      have hi : i < len := by have := (List.getElem?_eq_some_iff.1 hx).1; simpa using this
      refine ⟨hi, ?_⟩
      simpa [hi] using hx
    have hm63 : len ≤ 9223372036854775807 := by
      have : maxLen = 9223372036854775807 := by decide
      omega
    have hmem : ∀ x ∈ (List.range len).map F, Pk x := fun x hx => by
      obtain ⟨i, hi, rfl⟩ := List.mem_map.1 hx
      exact (hF i (List.mem_range.1 hi)).2
    rcases Nat.eq_zero_or_pos len with hz | hz
    · subst hz
      exact ⟨some a, 0, 0, cap, [], hc, fun h => absurd h (Nat.lt_irrefl 0), fun i x hx => by simp at hx, fun x hx => absurd hx (List.not_mem_nil), Nat.zero_le _⟩
    · obtain ⟨r1, r2, r3⟩ := row_at h0 hz (C := fun i => C (F i)) (fun i hi => (hF i hi).1)
      refine ⟨some a, a.block, a.off, cap, (List.range len).map F, by rw [hL]; exact hc, fun _ => ⟨by rw [← r1], r2⟩, fun i x hx j v hv => ?_, hmem, by rw [hL]; exact hm63⟩
      obtain ⟨hi, rfl⟩ := hget i x hx
      exact r3 i hi j v hv
end
end Go.Proofs.YtffcpmohanhihaaGreatDoor
namespace Go.Proofs.YtffcpmohanhihaaGreatDoor
open Go.RowKit Go.ChangeShapes
set_option linter.unusedVariables false
/-- A row of whole numbers. -/
structure NumsIn (B : Nat) (W : World) (A : Option Addr) (g o : Nat) (L : List Int) : Prop where
  a : 0 < L.length → A = some ⟨g, o, none⟩ ∧ g < B
  c : ∀ (i : Nat) n, L[i]? = some n → W.cell? ⟨g, o + i, none⟩ = some (.int .i64 n)
theorem NumsIn.move {B : Nat} {W W' : World} {A : Option Addr} {g o : Nat} {L : List Int} (h : NumsIn B W A g o L) (hb : Below B W W') : NumsIn B W' A g o L :=
  ⟨h.a, fun i n hn => by
    have h0 : 0 < L.length := by have := (List.getElem?_eq_some_iff.1 hn).1; omega
    exact (hb.cell (p := ⟨g, o + i, none⟩) (h.a h0).2).trans (h.c i n hn)⟩
theorem info1n : (Tryz.prog.info? 3).map (·.size) = some 1 := by kernel_rfl
theorem NumsIn.ix {B : Nat} {W : World} {A : Option Addr} {g o : Nat} {L : List Int} (h : NumsIn B W A g o L) {i : Nat} (hi : i < L.length) (c : Nat) (V : World) : (Instr.indexAt 43 (.slice A L.length c) (.int .i64 (i : Int))).run Tryz.prog V = .ok (.pointer (some ⟨g, o + i, none⟩)) V := by
  have := run_index_row (P := Tryz.prog) 43 3 Tryz.underlying43 1 info1n (h.a (by omega)).1 hi c V
  rwa [Nat.mul_one] at this
section
variable {H : Type} {enc : TypeId × Value → H} {W : World} {base : Nat} {spare : Nat → Bool} {held : Bool}
theorem cellsInt : Tryz.prog.cellsOf 3 = 1 := by kernel_rfl
theorem open_nums {fuel : Nat} {cs : List Value} {x : DataW H × List MemPlace} (h : DataW.trod enc Tryz.prog W base spare held fuel 43 cs = some x) :
    ∃ (A : Option Addr) (g o c : Nat) (L : List Int), cs = [.slice A L.length c] ∧ NumsIn W.heap.size W A g o L ∧ L.length ≤ 9223372036854775807 := by
  obtain ⟨A, g, o, c, L, hc, ha, hcell, hp, hl⟩ := open_slice Tryz.underlying43 cellsInt (by decide) (fun n : Int => [Value.int .i64 n]) (fun n => -9223372036854775808 ≤ n ∧ n ≤ 9223372036854775807) (fun n cs y hy => by
    obtain ⟨R, hR, _, wR⟩ := DataW.trod_int Tryz.underlying3 hy
    exact ⟨R, hR, wf_i64 wR⟩) h
  exact ⟨A, g, o, c, L, hc, ⟨ha, fun i n hn => by have := hcell i n hn 0 _ rfl; simpa using this⟩, hl⟩
end
end Go.Proofs.YtffcpmohanhihaaGreatDoor
