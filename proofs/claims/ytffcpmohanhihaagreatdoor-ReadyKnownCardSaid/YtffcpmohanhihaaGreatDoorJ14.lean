/-
  A value that came in, read as data, is a tree that lies in memory. No condition.
  An operation that came in, read as data, is a row of 79 cells over a tree that lies in memory. No condition.
  An operation over its value; one that may be has a value without parts. No condition.
  ops.Copy tells an operation alike. Condition: the operation's value has no parts.
-/
import Derived.Test.YtffcpmohanhihaaGreatDoorJ11
import Derived.ChangeArms
import Derived.ChangeSame
import Derived.OpenShut
import Derived.Deep.Slices
import Derived.Carry
import Derived.Test.YtffcpmohanhihaaGreatDoorJ10
import Derived.Test.YtffcpmohanhihaaGreatDoorJ12
import Derived.Test.YtffcpmohanhihaaGreatDoorJ6
import Derived.Test.YtffcpmohanhihaaGreatDoorJ16
namespace Go.Proofs.YtffcpmohanhihaaGreatDoor
open Go.RowKit Go.ChangeShapes
set_option linter.unusedVariables false
set_option linter.unusedSimpArgs false
set_option linter.unusedSectionVars false
theorem wf_i64 {n : Int} (h : (Lit.int .i64 n).wf = true) : -9223372036854775808 ≤ n ∧ n ≤ 9223372036854775807 := by
  have h2 : (decide (IntKind.i64.min ≤ n) && decide (n ≤ IntKind.i64.max)) = true := h
  have e1 : IntKind.i64.min = -9223372036854775808 := by decide
  have e2 : IntKind.i64.max = 9223372036854775807 := by decide
  rw [e1, e2] at h2
  simpa using h2
section
variable {H : Type} {enc : TypeId × Value → H} {W : World} {base : Nat} {spare : Nat → Bool} {held : Bool}
theorem cellsV : Tryz.prog.cellsOf 38 = 5 := by kernel_rfl
theorem cellsP : Tryz.prog.cellsOf 82 = 6 := by kernel_rfl
theorem cellsK : Tryz.prog.cellsOf 34 = 1 := by kernel_rfl
theorem cellsI : Tryz.prog.cellsOf 2 = 1 := by kernel_rfl
theorem cellsS : Tryz.prog.cellsOf 9 = 1 := by kernel_rfl
theorem cellsL : Tryz.prog.cellsOf 35 = 1 := by kernel_rfl
theorem cellsM : Tryz.prog.cellsOf 36 = 1 := by kernel_rfl
/-- Where elements of so many cells lie. -/
theorem row_at {a : Addr} {len sz : Nat} (hsz : 0 < sz) (hlen : 0 < len) {C : Nat → List Value} (hC : ∀ i, i < len → W.cells? base (a.add (i * sz)) sz = some (C i)) :
    a = ⟨a.block, a.off, none⟩ ∧ a.block < W.heap.size ∧ ∀ i, i < len → ∀ j v, (C i)[j]? = some v → W.cell? ⟨a.block, a.off + i * sz + j, none⟩ = some v := by
  have h0 := World.cells?_some (hC 0 hlen)
  have hc0 := h0.2.2 0 hsz
  have hl0 := h0.2.1
  rw [List.getElem?_eq_getElem (by omega)] at hc0
  have e0 : (a.add (0 * sz)).add 0 = a := by simp [Addr.add]
  rw [e0] at hc0
  have hspot : a.spot = none := by
    unfold World.cell? at hc0
    split at hc0
    · split at hc0
      · cases hc0
      · rename_i hs; cases h : a.spot <;> simp_all
    · cases hc0
  have hblk := World.block_lt_of_cell? W a hc0
  obtain ⟨b, o, s⟩ := a
  simp only at hspot hblk ⊢
  subst hspot
  refine ⟨rfl, hblk, fun i hi j v hv => ?_⟩
  have h1 := World.cells?_some (hC i hi)
  have hj : j < sz := by rw [← h1.2.1]; exact (List.getElem?_eq_some_iff.1 hv).1
  have h2 := h1.2.2 j hj
  rw [hv] at h2
  rw [← h2]
  congr 1
  unfold Addr.add
  by_cases q1 : i * sz = 0 <;> by_cases q2 : j = 0 <;> simp [q1, q2] <;> omega
theorem five {cs : List Value} (h : cs.length = 5) : ∃ a b c d e, cs = [a, b, c, d, e] := by
  match cs, h with
  | [a, b, c, d, e], _ => exact ⟨a, b, c, d, e, rfl⟩
theorem open_val : ∀ (fuel : Nat) (cs : List Value) (x : DataW H × List MemPlace), DataW.trod enc Tryz.prog W base spare held fuel 38 cs = some x → ∃ t : VT, cs = t.c.toList ∧ VT.In W.heap.size W t := by
  intro fuel
  induction fuel using Nat.strongRecOn with
  | _ fuel ih =>
    intro cs x h
    obtain ⟨xs, n, rfl, rfl, hl, hlen, hf⟩ := DataW.trod_struct Tryz.underlying38 h
    rw [cellsV] at hl
    obtain ⟨c0, c1, c2, c3, c4, rfl⟩ := five hl
    have g : ∀ i : Nat, i < 5 → ∃ y, xs[i]? = some y := fun i hi => ⟨xs[i]'(by rw [hlen]; exact hi), List.getElem?_eq_getElem _⟩
    obtain ⟨y0, e0⟩ := g 0 (by decide)
    obtain ⟨y1, e1⟩ := g 1 (by decide)
    obtain ⟨y2, e2⟩ := g 2 (by decide)
    obtain ⟨y3, e3⟩ := g 3 (by decide)
    obtain ⟨y4, e4⟩ := g 4 (by decide)
    have h0 : DataW.trod enc Tryz.prog W base spare held n 34 (([c0, c1, c2, c3, c4].drop 0).take (Tryz.prog.cellsOf 34)) = some y0 := (hf 0 _ rfl).trans e0
    have h1 : DataW.trod enc Tryz.prog W base spare held n 2 (([c0, c1, c2, c3, c4].drop 1).take (Tryz.prog.cellsOf 2)) = some y1 := (hf 1 _ rfl).trans e1
    have h2 : DataW.trod enc Tryz.prog W base spare held n 9 (([c0, c1, c2, c3, c4].drop 2).take (Tryz.prog.cellsOf 9)) = some y2 := (hf 2 _ rfl).trans e2
    have h3 : DataW.trod enc Tryz.prog W base spare held n 35 (([c0, c1, c2, c3, c4].drop 3).take (Tryz.prog.cellsOf 35)) = some y3 := (hf 3 _ rfl).trans e3
    have h4 : DataW.trod enc Tryz.prog W base spare held n 36 (([c0, c1, c2, c3, c4].drop 4).take (Tryz.prog.cellsOf 36)) = some y4 := (hf 4 _ rfl).trans e4
    simp only [cellsK, cellsI, cellsS, cellsL, cellsM, List.drop_succ_cons, List.drop_zero, List.take_succ_cons, List.take_zero] at h0 h1 h2 h3 h4
    obtain ⟨k, hk, _, wk⟩ := DataW.trod_int Tryz.underlying34 h0
    obtain ⟨m, hm, _, wm⟩ := DataW.trod_int Tryz.underlying2 h1
    obtain ⟨s, hs, _, hsz⟩ := DataW.trod_string Tryz.underlying9 h2
    have wk := wf_i64 wk
    have wm := wf_i64 wm
    have hL : ∃ (A : Option Addr) (b o len cap : Nat) (T : Nat → VT), c3 = .slice A len cap ∧ len ≤ 9223372036854775807 ∧ (0 < len → A = some ⟨b, o, none⟩ ∧ b < W.heap.size) ∧ (∀ i, i < len → ∀ j v, (VT.c (T i))[j]? = some v → W.cell? ⟨b, o + i * 5 + j, none⟩ = some v) ∧ ∀ i, i < len → VT.In W.heap.size W (T i) := by
      rcases DataW.trod_slice Tryz.underlying35 h3 with ⟨hc, _⟩ | ⟨a, len, cap, elems, rst, n', hn, hc, _, hb, hlc, hcap, hel, he, _, _⟩
      · exact ⟨none, 0, 0, 0, 0, fun _ => .no, by simpa using hc, by decide, fun h => absurd h (by decide), fun i hi => absurd hi (Nat.not_lt_zero i), fun i hi => absurd hi (Nat.not_lt_zero i)⟩
      · have key : ∀ i, i < len → ∃ t : VT, W.cells? base (a.add (i * 5)) 5 = some t.c.toList ∧ VT.In W.heap.size W t := by
          intro i hi
          have := he i hi
          rw [List.getElem?_eq_getElem (by omega), cellsV] at this
          obtain ⟨cs', q1, q2⟩ := Option.bind_eq_some_iff.1 this
          obtain ⟨t, rfl, ht⟩ := ih n' (by omega) cs' _ q2
          exact ⟨t, q1, ht⟩
        have inh : Inhabited VT := ⟨.no⟩
        obtain ⟨T, hT⟩ := Go.Deep.choose_lt key
        have hm63 : len ≤ 9223372036854775807 := by
          have : maxLen = 9223372036854775807 := by decide
          omega
        rcases Nat.eq_zero_or_pos len with h0 | h0
        · subst h0
          exact ⟨some a, 0, 0, 0, cap, T, by simpa using hc, by decide, fun h => absurd h (by decide), fun i hi => absurd hi (Nat.not_lt_zero i), fun i hi => absurd hi (Nat.not_lt_zero i)⟩
        · obtain ⟨r1, r2, r3⟩ := row_at (sz := 5) (by decide) h0 (C := fun i => (T i).c.toList) (fun i hi => (hT i hi).1)
          exact ⟨some a, a.block, a.off, len, cap, T, by simpa using hc, hm63, fun _ => ⟨by rw [← r1], r2⟩, fun i hi j v hv => r3 i hi j v (by simpa using hv), fun i hi => (hT i hi).2⟩
    have hM : ∃ (A : Option Addr) (b o len cap : Nat) (K : Nat → ByteArray) (T : Nat → VT), c4 = .slice A len cap ∧ len ≤ 9223372036854775807 ∧ (0 < len → A = some ⟨b, o, none⟩ ∧ b < W.heap.size) ∧ (∀ i, i < len → ∀ j v, ((Value.string (K i)) :: (VT.c (T i)).toList)[j]? = some v → W.cell? ⟨b, o + i * 6 + j, none⟩ = some v) ∧ (∀ i, i < len → (K i : ByteArray).size ≤ 9223372036854775807) ∧ ∀ i, i < len → VT.In W.heap.size W (T i) := by
      rcases DataW.trod_slice Tryz.underlying36 h4 with ⟨hc, _⟩ | ⟨a, len, cap, elems, rst, n', hn, hc, _, hb, hlc, hcap, hel, he, _, _⟩
      · exact ⟨none, 0, 0, 0, 0, fun _ => ⟨#[]⟩, fun _ => .no, by simpa using hc, by decide, fun h => absurd h (by decide), fun i hi => absurd hi (Nat.not_lt_zero i), fun i hi => absurd hi (Nat.not_lt_zero i), fun i hi => absurd hi (Nat.not_lt_zero i)⟩
      · have key : ∀ i, i < len → ∃ p : ByteArray × VT, W.cells? base (a.add (i * 6)) 6 = some (.string p.1 :: p.2.c.toList) ∧ p.1.size ≤ 9223372036854775807 ∧ VT.In W.heap.size W p.2 := by
          intro i hi
          have := he i hi
          rw [List.getElem?_eq_getElem (by omega), cellsP] at this
          obtain ⟨cs', q1, q2⟩ := Option.bind_eq_some_iff.1 this
          obtain ⟨ys, n2, hn2, _, hl2, hlen2, hf2⟩ := DataW.trod_struct Tryz.underlying82 q2
          rw [cellsP] at hl2
          have z0 : ∃ y, ys[0]? = some y := ⟨ys[0]'(by rw [hlen2]; decide), List.getElem?_eq_getElem _⟩
          have z1 : ∃ y, ys[1]? = some y := ⟨ys[1]'(by rw [hlen2]; decide), List.getElem?_eq_getElem _⟩
          obtain ⟨u0, z0⟩ := z0
          obtain ⟨u1, z1⟩ := z1
          have k0 : DataW.trod enc Tryz.prog W base spare held n2 9 ((cs'.drop 0).take (Tryz.prog.cellsOf 9)) = some u0 := (hf2 0 _ rfl).trans z0
          have k1 : DataW.trod enc Tryz.prog W base spare held n2 38 ((cs'.drop 1).take (Tryz.prog.cellsOf 38)) = some u1 := (hf2 1 _ rfl).trans z1
          obtain ⟨d, ds, rfl⟩ : ∃ d ds, cs' = d :: ds := by
            cases cs' with
            | nil => simp at hl2
            | cons d ds => exact ⟨d, ds, rfl⟩
          · simp only [cellsS, cellsV, List.drop_succ_cons, List.drop_zero, List.take_succ_cons, List.take_zero] at k0 k1
            obtain ⟨ks, hks, _, hksz⟩ := DataW.trod_string Tryz.underlying9 k0
            have hds : ds.length = 5 := by simpa using hl2
            rw [List.take_of_length_le (by omega)] at k1
            obtain ⟨t, rfl, ht⟩ := ih n2 (by omega) ds _ k1
            obtain rfl : d = .string ks := by simpa using hks
            have : maxLen = 9223372036854775807 := by decide
            exact ⟨(ks, t), q1, by simp only; omega, ht⟩
        have inh : Inhabited (ByteArray × VT) := ⟨(⟨#[]⟩, .no)⟩
        obtain ⟨T, hT⟩ := Go.Deep.choose_lt key
        have hm63 : len ≤ 9223372036854775807 := by
          have : maxLen = 9223372036854775807 := by decide
          omega
        rcases Nat.eq_zero_or_pos len with h0 | h0
        · subst h0
          exact ⟨some a, 0, 0, 0, cap, fun i => (T i).1, fun i => (T i).2, by simpa using hc, by decide, fun h => absurd h (by decide), fun i hi => absurd hi (Nat.not_lt_zero i), fun i hi => absurd hi (Nat.not_lt_zero i), fun i hi => absurd hi (Nat.not_lt_zero i)⟩
        · obtain ⟨r1, r2, r3⟩ := row_at (sz := 6) (by decide) h0 (C := fun i => .string (T i).1 :: (T i).2.c.toList) (fun i hi => (hT i hi).1)
          exact ⟨some a, a.block, a.off, len, cap, fun i => (T i).1, fun i => (T i).2, by simpa using hc, hm63, fun _ => ⟨by rw [← r1], r2⟩, fun i hi j v hv => r3 i hi j v hv, fun i hi => (hT i hi).2.1, fun i hi => (hT i hi).2.2⟩
    obtain ⟨A, b, o, len, cap, T, rfl, l1, l2, l3, l4⟩ := hL
    obtain ⟨A', b', o', len', cap', K, T', rfl, m1, m2, m3, m4, m5⟩ := hM
    obtain rfl : c0 = .int .i64 k := by simpa using hk
    obtain rfl : c1 = .int .i64 m := by simpa using hm
    obtain rfl : c2 = .string s := by simpa using hs
    refine ⟨.mk k m s A b o len cap T A' b' o' len' cap' K T', rfl, .mk ⟨wm.1, wm.2, wk.1, wk.2, ?_, l1, m1, l2, m2, l3, ?_, m4⟩ l4 m5⟩
    · have : maxLen = 9223372036854775807 := by decide
      exact this ▸ hsz
    · intro i hi j v hv
      refine m3 i hi j v ?_
      rw [← hv]
      simp [VT.pc, VT.c, VT.key, VT.mt]
end
end Go.Proofs.YtffcpmohanhihaaGreatDoor
namespace Go.Proofs.YtffcpmohanhihaaGreatDoor
open Go.RowKit Go.ChangeShapes
set_option linter.unusedVariables false
set_option linter.unusedSimpArgs false
/-- What an operation that came in is. -/
structure OpIn (W : World) (o : OpV) (t : VT) : Prop where
  seen : o.seen.length = 64
  vc : o.vc = t.c
  tin : VT.In W.heap.size W t
  key : o.key.size ≤ 9223372036854775807
  r : -9223372036854775808 ≤ o.R ∧ o.R ≤ 9223372036854775807
  n : -9223372036854775808 ≤ o.N ∧ o.N ≤ 9223372036854775807
  t : -9223372036854775808 ≤ o.T ∧ o.T ≤ 9223372036854775807
section
variable {H : Type} {enc : TypeId × Value → H} {W : World} {base : Nat} {spare : Nat → Bool} {held : Bool}
theorem cellsO : Tryz.prog.cellsOf 40 = 79 := by kernel_rfl
theorem cellsD : Tryz.prog.cellsOf 31 = 2 := by kernel_rfl
theorem cellsC : Tryz.prog.cellsOf 33 = 64 := by kernel_rfl
theorem cellsN : Tryz.prog.cellsOf 3 = 1 := by kernel_rfl
theorem open_id {fuel : Nat} {cs : List Value} {x : DataW H × List MemPlace} (h : DataW.trod enc Tryz.prog W base spare held fuel 31 cs = some x) : ∃ r n : Int, cs = [.int .i64 r, .int .i64 n] ∧ (-9223372036854775808 ≤ r ∧ r ≤ 9223372036854775807) ∧ (-9223372036854775808 ≤ n ∧ n ≤ 9223372036854775807) := by
  obtain ⟨y0, y1, n, _, hl, h0, h1⟩ := trod_struct2 Tryz.underlying31 h
  rw [cellsD] at hl
  obtain ⟨a, b, rfl⟩ : ∃ a b, cs = [a, b] := by
    rcases cs with _ | ⟨a, _ | ⟨b, _ | ⟨c, cs⟩⟩⟩
    · simp at hl
    · simp at hl
    · exact ⟨a, b, rfl⟩
    · simp at hl
  have g0 : DataW.trod enc Tryz.prog W base spare held n 3 (([a, b].drop 0).take (Tryz.prog.cellsOf 3)) = some y0 := h0
  have g1 : DataW.trod enc Tryz.prog W base spare held n 2 (([a, b].drop 1).take (Tryz.prog.cellsOf 2)) = some y1 := h1
  simp only [cellsN, cellsI, List.drop_succ_cons, List.drop_zero, List.take_succ_cons, List.take_zero] at g0 g1
  obtain ⟨r, hr, _, wr⟩ := DataW.trod_int Tryz.underlying3 g0
  obtain ⟨m, hm, _, wm⟩ := DataW.trod_int Tryz.underlying2 g1
  exact ⟨r, m, by simp at hr hm; rw [hr, hm], wf_i64 wr, wf_i64 wm⟩
theorem open_vec {fuel : Nat} {cs : List Value} {x : DataW H × List MemPlace} (h : DataW.trod enc Tryz.prog W base spare held fuel 33 cs = some x) : ∃ v : List Int, cs = v.map (Value.int .i64) ∧ v.length = 64 := by
  obtain ⟨xs, m, _, _, hl, hlen, hf⟩ := DataW.trod_array Tryz.underlying33 h
  rw [cellsC] at hl
  have key : ∀ i, i < 64 → ∃ n : Int, cs[i]? = some (.int .i64 n) := by
    intro i hi
    have h1 := hf i hi
    rw [cellsI, List.getElem?_eq_getElem (by omega)] at h1
    obtain ⟨n, hn, _⟩ := DataW.trod_int Tryz.underlying2 h1
    refine ⟨n, ?_⟩
    have h2 : ((cs.drop (i * 1)).take 1)[0]? = some (.int .i64 n) := by rw [hn]; rfl
    rw [List.getElem?_take, if_pos (by decide), List.getElem?_drop] at h2
    simpa using h2
  have key2 : ∀ i, i < 64 → ∃ n : Int, True ∧ cs[i]? = some (.int .i64 n) := fun i hi => by obtain ⟨n, hn⟩ := key i hi; exact ⟨n, trivial, hn⟩
  obtain ⟨f, hf2⟩ := Go.Deep.choose_lt key2
  refine ⟨(List.range 64).map f, ?_, by simp⟩
  apply List.ext_getElem?
  intro i
  rcases Nat.lt_or_ge i 64 with hi | hi
  · rw [(hf2 i hi).2]; simp [hi]
  · rw [List.getElem?_eq_none (by omega), List.getElem?_eq_none (by simp; omega)]
theorem split79 {cs : List Value} : cs = cs.take 2 ++ ((cs.drop 2).take 1 ++ ((cs.drop 3).take 64 ++ ((cs.drop 67).take 1 ++ ((cs.drop 68).take 2 ++ ((cs.drop 70).take 1 ++ ((cs.drop 71).take 2 ++ ((cs.drop 73).take 1 ++ cs.drop 74))))))) := by
  have e : ∀ (a b : Nat) (l : List Value), l.drop a = (l.drop a).take b ++ l.drop (a + b) := fun a b l => by
    rw [← List.drop_drop]
    exact (List.take_append_drop b (l.drop a)).symm
  exact (List.take_append_drop 2 cs).symm.trans (congrArg (cs.take 2 ++ ·) ((e 2 1 cs).trans (congrArg ((cs.drop 2).take 1 ++ ·) ((e 3 64 cs).trans (congrArg ((cs.drop 3).take 64 ++ ·) ((e 67 1 cs).trans (congrArg ((cs.drop 67).take 1 ++ ·) ((e 68 2 cs).trans (congrArg ((cs.drop 68).take 2 ++ ·) ((e 70 1 cs).trans (congrArg ((cs.drop 70).take 1 ++ ·) ((e 71 2 cs).trans (congrArg ((cs.drop 71).take 2 ++ ·) (e 73 1 cs))))))))))))))
theorem open_op {fuel : Nat} {cs : List Value} {x : DataW H × List MemPlace} (h : DataW.trod enc Tryz.prog W base spare held fuel 40 cs = some x) : ∃ o t, cs = o.c.toList ∧ OpIn W o t := by
  obtain ⟨xs, n, _, _, hl, hlen, hf⟩ := DataW.trod_struct Tryz.underlying40 h
  rw [cellsO] at hl
  have g : ∀ i : Nat, i < 9 → ∃ y, xs[i]? = some y := fun i hi => ⟨xs[i]'(by rw [hlen]; exact hi), List.getElem?_eq_getElem _⟩
  obtain ⟨y0, e0⟩ := g 0 (by decide)
  obtain ⟨y1, e1⟩ := g 1 (by decide)
  obtain ⟨y2, e2⟩ := g 2 (by decide)
  obtain ⟨y3, e3⟩ := g 3 (by decide)
  obtain ⟨y4, e4⟩ := g 4 (by decide)
  obtain ⟨y5, e5⟩ := g 5 (by decide)
  obtain ⟨y6, e6⟩ := g 6 (by decide)
  obtain ⟨y7, e7⟩ := g 7 (by decide)
  obtain ⟨y8, e8⟩ := g 8 (by decide)
  have h0 : DataW.trod enc Tryz.prog W base spare held n 31 ((cs.drop 0).take (Tryz.prog.cellsOf 31)) = some y0 := (hf 0 _ rfl).trans e0
  have h1 : DataW.trod enc Tryz.prog W base spare held n 2 ((cs.drop 2).take (Tryz.prog.cellsOf 2)) = some y1 := (hf 1 _ rfl).trans e1
  have h2 : DataW.trod enc Tryz.prog W base spare held n 33 ((cs.drop 3).take (Tryz.prog.cellsOf 33)) = some y2 := (hf 2 _ rfl).trans e2
  have h3 : DataW.trod enc Tryz.prog W base spare held n 3 ((cs.drop 67).take (Tryz.prog.cellsOf 3)) = some y3 := (hf 3 _ rfl).trans e3
  have h4 : DataW.trod enc Tryz.prog W base spare held n 31 ((cs.drop 68).take (Tryz.prog.cellsOf 31)) = some y4 := (hf 4 _ rfl).trans e4
  have h5 : DataW.trod enc Tryz.prog W base spare held n 9 ((cs.drop 70).take (Tryz.prog.cellsOf 9)) = some y5 := (hf 5 _ rfl).trans e5
  have h6 : DataW.trod enc Tryz.prog W base spare held n 31 ((cs.drop 71).take (Tryz.prog.cellsOf 31)) = some y6 := (hf 6 _ rfl).trans e6
  have h7 : DataW.trod enc Tryz.prog W base spare held n 3 ((cs.drop 73).take (Tryz.prog.cellsOf 3)) = some y7 := (hf 7 _ rfl).trans e7
  have h8 : DataW.trod enc Tryz.prog W base spare held n 38 ((cs.drop 74).take (Tryz.prog.cellsOf 38)) = some y8 := (hf 8 _ rfl).trans e8
  rw [cellsD] at h0 h4 h6
  rw [cellsI] at h1
  rw [cellsC] at h2
  rw [cellsN] at h3 h7
  rw [cellsS] at h5
  rw [cellsV, List.take_of_length_le (by simp; omega)] at h8
  rw [List.drop_zero] at h0
  obtain ⟨R, N, p0, rr, rn⟩ := open_id h0
  obtain ⟨T, p1, _, wT⟩ := DataW.trod_int Tryz.underlying2 h1
  obtain ⟨seen, p2, hs⟩ := open_vec h2
  obtain ⟨K, p3, _, wK⟩ := DataW.trod_int Tryz.underlying3 h3
  obtain ⟨OR, ON, p4, _, _⟩ := open_id h4
  obtain ⟨key, p5, _, hk⟩ := DataW.trod_string Tryz.underlying9 h5
  obtain ⟨AR, AN, p6, _, _⟩ := open_id h6
  obtain ⟨M, p7, _, wM⟩ := DataW.trod_int Tryz.underlying3 h7
  obtain ⟨t, p8, ht⟩ := open_val n _ _ h8
  have hmax : maxLen = 9223372036854775807 := by decide
  refine ⟨{ R, N, T, seen, K, OR, ON, key, AR, AN, M, VK := t.k, VN := t.n, VS := t.s, VL := t.L, VM := t.M }, t, ?_, ⟨hs, rfl, ht, hmax ▸ hk, rr, rn, wf_i64 wT⟩⟩
  rw [split79 (cs := cs), p0, p1, p2, p3, p4, p5, p6, p7, p8]
  simp [OpV.c, OpV.l, OpV.v, VT.c]
end
end Go.Proofs.YtffcpmohanhihaaGreatDoor
namespace Go.Proofs.YtffcpmohanhihaaGreatDoor
open Go.RowKit
set_option linter.unusedVariables false
set_option linter.unusedSimpArgs false
structure OT where
  o : OpV
  t : VT
namespace OT
def good (x : OT) : Bool := opB x.o (goodT x.t) (sameV x.t .no) (validS x.o.key).2
def same (x y : OT) : Bool := sameO x.o y.o x.t y.t
def v (x : OT) : Value := opv x.o
/-- What holds of an operation in whatever world. -/
structure Ok (x : OT) : Prop where
  seen : x.o.seen.length = 64
  vc : x.o.vc = x.t.c
  key : x.o.key.size ≤ 9223372036854775807
  r : -9223372036854775808 ≤ x.o.R ∧ x.o.R ≤ 9223372036854775807
  n : -9223372036854775808 ≤ x.o.N ∧ x.o.N ≤ 9223372036854775807
  t : -9223372036854775808 ≤ x.o.T ∧ x.o.T ≤ 9223372036854775807
  tin : ∀ B W, VT.In B W x.t
  ln : x.t.ln = 0
  mn : x.t.mn = 0
end OT
theorem VT.In.bare {B B' : Nat} {W W' : World} {t : VT} (h : VT.In B W t) (hl : t.ln = 0) (hm : t.mn = 0) : VT.In B' W' t :=
  .mk { h.here with
      la := fun hn => absurd hn (by omega)
      ma := fun hn => absurd hn (by omega)
      lcell := fun i hi => absurd hi (by omega)
      mcell := fun i hi => absurd hi (by omega) }
    (fun i hi => absurd hi (by omega)) (fun i hi => absurd hi (by omega))
theorem VT.Sm.bare {t : VT} (hl : t.ln = 0) (hm : t.mn = 0) : VT.Sm t := .mk (by omega) (by omega) (fun i hi => absurd hi (by omega)) (fun i hi => absurd hi (by omega))
theorem own_of_good {t : VT} (h : goodT t = true) : ownV t = true := by
  cases hq : ownV t with
  | true => rfl
  | false =>
    exfalso
    unfold goodT at h
    cases t with
    | no => rw [judgeT, hq] at h; simp at h
    | mk k n s lA lb lo ln lc lt mA mb mo mn mc key mt => rw [judgeT, hq] at h; simp at h
theorem own_bare {t : VT} (h : ownV t = true) (h5 : (t.k == 5) = false) (h6 : (t.k == 6) = false) : t.ln = 0 ∧ t.mn = 0 := by
  unfold ownV ownB at h
  rw [h5, h6] at h
  generalize (intN t.s.data.toList).isSome = a1 at h
  generalize goodN t.s.data.toList = a2 at h
  generalize (letC t.s == 0) = a3 at h
  generalize stampB t.s = a4 at h
  repeat' split at h
  all_goals first
    | (cases h; done)
    | (simp only [Bool.and_eq_true, beq_iff_eq] at h; exact ⟨h.1.2, h.2⟩)
    | (rename_i h9; simp only [Bool.not_eq_true', Bool.or_eq_true, not_or, Bool.not_eq_false', Bool.not_eq_false, beq_iff_eq] at h9; exact ⟨h9.1.2, h9.2⟩)
    | simp_all
theorem same_no_bare {t : VT} (h : sameV t .no = true) : t.ln = 0 ∧ t.mn = 0 := by
  obtain ⟨_, _, h3, h4, _⟩ := sameV_parts h
  exact ⟨h3, h4⟩
/-- One that may be has a value without parts. -/
theorem good_bare {o : OpV} {t : VT} (hv : o.vc = t.c) (h : opB o (goodT t) (sameV t .no) (validS o.key).2 = true) : t.ln = 0 ∧ t.mn = 0 := by
  have hk : t.k = o.VK := by
    have := congrArg (fun a => a[0]?) hv
    simp [OpV.vc, VT.c] at this
    exact this.symm
  unfold opB at h
  simp only [Bool.and_eq_true] at h
  have hm := h.1.2
  unfold makesB at hm
  split at hm
  · simp only [Bool.and_eq_true, bne_iff_ne, ne_eq] at hm
    exact own_bare (own_of_good hm.2) (by rw [hk]; simpa using hm.1.1) (by rw [hk]; simpa using hm.1.2)
  · split at hm
    · exact same_no_bare hm
    · cases hm
theorem OpIn.ok {W : World} {o : OpV} {t : VT} (h : OpIn W o t) (hl : t.ln = 0) (hm : t.mn = 0) : OT.Ok ⟨o, t⟩ := ⟨h.seen, h.vc, h.key, h.r, h.n, h.t, fun B W' => h.tin.bare hl hm, hl, hm⟩
theorem OT.Ok.opin {x : OT} (h : OT.Ok x) (W : World) : OpIn W x.o x.t := ⟨h.seen, h.vc, h.tin _ _, h.key, h.r, h.n, h.t⟩
/-- What being alike comes to. -/
structure OT.Same (x y : OT) : Prop where
  R : x.o.R = y.o.R
  N : x.o.N = y.o.N
  T : x.o.T = y.o.T
  seen : x.o.seen = y.o.seen
  K : x.o.K = y.o.K
  OR : x.o.OR = y.o.OR
  ON : x.o.ON = y.o.ON
  key : x.o.key = y.o.key
  AR : x.o.AR = y.o.AR
  AN : x.o.AN = y.o.AN
  M : x.o.M = y.o.M
  V : sameV x.t y.t = true
theorem OT.same_iff {x y : OT} : OT.same x y = true ↔ OT.Same x y := by
  unfold OT.same sameO
  constructor
  · intro h
    simp only [Bool.and_eq_true, beq_iff_eq] at h
    obtain ⟨⟨⟨⟨⟨⟨⟨⟨h1, h2, h3⟩, h4⟩, h5⟩, h6⟩, h7, h8⟩, h9⟩, h10, h11⟩, h12⟩ := h
    exact ⟨h2, h3, h4, h5, h6, h7, h8, ba_eq (by simpa using h9), h10, h11, h12, h1⟩
  · rintro ⟨h1, h2, h3, h4, h5, h6, h7, h8, h9, h10, h11, h12⟩
    simp [h1, h2, h3, h4, h5, h6, h7, h8, h9, h10, h11, h12]
theorem OT.Same.refl (x : OT) : OT.Same x x := ⟨rfl, rfl, rfl, rfl, rfl, rfl, rfl, rfl, rfl, rfl, rfl, sameV_self _⟩
theorem OT.Same.symm {x y : OT} (h : OT.Same x y) : OT.Same y x := ⟨h.R.symm, h.N.symm, h.T.symm, h.seen.symm, h.K.symm, h.OR.symm, h.ON.symm, h.key.symm, h.AR.symm, h.AN.symm, h.M.symm, sameV_symm h.V⟩
theorem OT.Same.trans {x y z : OT} (h : OT.Same x y) (k : OT.Same y z) : OT.Same x z := ⟨h.R.trans k.R, h.N.trans k.N, h.T.trans k.T, h.seen.trans k.seen, h.K.trans k.K, h.OR.trans k.OR, h.ON.trans k.ON, h.key.trans k.key, h.AR.trans k.AR, h.AN.trans k.AN, h.M.trans k.M, sameV_trans h.V k.V⟩
end Go.Proofs.YtffcpmohanhihaaGreatDoor
namespace Go.Proofs.YtffcpmohanhihaaGreatDoor
open Go.RowKit
set_option linter.unusedVariables false
set_option linter.unusedSimpArgs false
def OT.put (x : OT) (t : VT) : OT := ⟨{ x.o with VK := t.k, VN := t.n, VS := t.s, VL := t.L, VM := t.M }, t⟩
def opHead (o : OpV) : List Value := [Value.int .i64 o.R, Value.int .i64 o.N, Value.int .i64 o.T] ++ o.seen.map (Value.int .i64) ++ [Value.int .i64 o.K, Value.int .i64 o.OR, Value.int .i64 o.ON, Value.string o.key, Value.int .i64 o.AR, Value.int .i64 o.AN, Value.int .i64 o.M]
theorem put_c (x : OT) (t : VT) (h : x.o.seen.length = 64) : (x.o.c.toList.take 74 ++ t.c.toList ++ x.o.c.toList.drop 79).toArray = (x.put t).o.c := by
  have e : x.o.c.toList = opHead x.o ++ x.o.v := by simp [OpV.c, OpV.l, opHead]
  have hl : (opHead x.o).length = 74 := by simp [opHead, h]
  rw [e, List.take_left' hl, List.drop_eq_nil_of_le (by rw [List.length_append, hl]; simp [OpV.v])]
  simp [OT.put, OpV.c, OpV.l, OpV.v, VT.c, opHead]
theorem ot_one {x : OT} (h : x.o.vc = x.t.c) : x.o.c.all (·.oneCell') = true := by
  have h3 := congrArg (fun a => a[3]?) h
  have h4 := congrArg (fun a => a[4]?) h
  simp [OpV.vc, VT.c] at h3 h4
  exact op_one (by rw [h3]; rfl) (by rw [h4]; rfl)
set_option maxRecDepth 100000 in
set_option maxHeartbeats 2000000 in
theorem oCopy_any (x : OT) (w : World) (hx : OT.Ok x) : Calls Tryz.prog 30 #[x.v] w fun e w' => ∃ y : OT, e = .returned y.v ∧ OT.Ok y ∧ OT.Same x y ∧ Below w.heap.size w w' := by
  have hs := hx.seen
  have HX := Lib.hid hx
  clear hx
  have hS : Boxes w (w.alloc (Obj.cells x.o.c 40)) [(w.heap.size, Obj.cells x.o.c 40)] := (Boxes.start w).alloc (Obj.cells x.o.c 40)
  have hW0 : (w.alloc (Obj.cells x.o.c 40)).heap.size = w.heap.size + 1 := Array.size_push ..
  show Calls Tryz.prog 30 #[opv x.o] w _
  go_enter Tryz.func30, Tryz.ntmps30
  go_wp2_with (first | go_skip | ((with_reducible refine gate_op (op := .alloc 40) rfl ?_); generalize (w.alloc (Obj.cells x.o.c 40)) = W0 at *; refine alloc_arm rfl 40 rfl (op_alloc _) ?_; intro wn hbn hgn; have hS1 := hS.new hbn hgn; rw [hW0] at hS1; clear hS hbn hgn; have hS := hS1; clear hS1) | (refine load_part rfl 38 (.tmp 3) rfl _ 74 rfl _ _ (0, 0) _ _ (hS.at_ 0 rfl) (OpV.pV hs) Tryz.underlying38 rfl (val_info _) ?_) | (go_at_call 56; rw [HX.out.vc]; refine (vCopy_any x.t _ (HX.out.tin _ _) (VT.Sm.bare HX.out.ln HX.out.mn)).mono ?_; rintro e wn ⟨y, rfl, hy, hbn⟩; have hS1 := hS.step hbn; clear hS hbn; have hS := hS1; clear hS1; have HY := Lib.hid hy; clear hy) | ((with_reducible refine gate_op (op := .store 38 (.tmp 6) (.tmp 5)) rfl ?_); refine store_sub rfl 38 (.tmp 6) (.tmp 5) rfl w.heap.size 74 y.c rfl rfl (all_mem (VT.c_one _)) 40 x.o.c (hS.at_ 0 rfl) (by rw [OpV.size hs]; exact Nat.le_refl 79) (VT.val_info _) ?_; intro wn hgn hon hbn hsn; rw [show 74 + y.c.size = 79 from rfl, put_c x y hs] at hgn; have hS1 := hS.put 0 rfl hon hbn hgn; clear hS hgn hon hbn hsn; have hS := hS1; clear hS1) | ((with_reducible refine gate_op (op := .load 40 (.tmp 1)) rfl ?_); refine wpList_load_row' rfl 40 (.tmp 1) rfl _ rfl 40 _ (0, 0) _ (hS.at_ 0 rfl) Tryz.underlying40 rfl (op_info _ hs) ?_) | ((with_reducible refine gate_op (op := .store 40 (.tmp 2) (.tmp 7)) rfl ?_); refine wpList_store_row rfl 40 (.tmp 2) (.tmp 7) rfl _ (x.put y).o.c rfl rfl 40 _ (hS.at_ 1 rfl) (op_info _ hs) ((OpV.size (o := zeroO) rfl).trans (OpV.size (o := (x.put y).o) hs).symm) (ot_one (x := x.put y) rfl) ?_; intro wn hbn hgn hon hsn; have hS1 := hS.put 1 rfl hon hbn hgn; clear hS hbn hgn hon hsn; have hS := hS1; clear hS1))
  have hln : y.ln = 0 := by obtain ⟨_, _, h3, _⟩ := sameV_parts HY.out.same; rw [h3]; exact HX.out.ln
  have hmn : y.mn = 0 := by obtain ⟨_, _, _, h4, _⟩ := sameV_parts HY.out.same; rw [h4]; exact HX.out.mn
  exact bodyPost_ret (v := opv (x.put y).o) (results_cell_row rfl _ _ _ _ _ _ _ rfl (hS.at_ 1 rfl) Tryz.underlying40 rfl (op_info (x.put y).o hs)) rfl
    ⟨x.put y, rfl, ⟨hs, rfl, HX.out.key, HX.out.r, HX.out.n, HX.out.t, fun B W => HY.out.tin.bare hln hmn, hln, hmn⟩, ⟨rfl, rfl, rfl, rfl, rfl, rfl, rfl, rfl, rfl, rfl, rfl, sameV_symm HY.out.same⟩, hS.below⟩
end Go.Proofs.YtffcpmohanhihaaGreatDoor
