/-
  An operation that came in, read as data, is a row of 79 cells over a tree that lies in memory. No condition.
-/
import Derived.Test.YteplcnpmdjdlkaaGreatDoorOpenJ
import Derived.Test.YteplcnpmdjdlkaaGreatDoorJ6
namespace Go.Proofs.YteplcnpmdjdlkaaGreatDoor
open Go.RowKit Go.ChangeShapes
set_option linter.unusedVariables false
set_option linter.unusedSimpArgs false
/-- What an operation that came in is. -/
structure OpIn (W : World) (o : OpV) (t : VT) : Prop where
  seen : o.seen.length = 64
  vc : o.vc = t.c
  tin : VT.In W.heap.size W t
  key : o.key.size ≤ 9223372036854775807
  r : -9223372036854775808 ≤ o.R ∧ o.R ≤ 9223372036854775807
  n : -9223372036854775808 ≤ o.N ∧ o.N ≤ 9223372036854775807
  t : -9223372036854775808 ≤ o.T ∧ o.T ≤ 9223372036854775807
section
variable {H : Type} {enc : TypeId × Value → H} {W : World} {base : Nat} {spare : Nat → Bool} {held : Bool}
theorem cellsO : Tryz.prog.cellsOf 36 = 79 := by kernel_rfl
theorem cellsD : Tryz.prog.cellsOf 27 = 2 := by kernel_rfl
theorem cellsC : Tryz.prog.cellsOf 29 = 64 := by kernel_rfl
theorem cellsN : Tryz.prog.cellsOf 3 = 1 := by kernel_rfl
theorem open_id {fuel : Nat} {cs : List Value} {x : DataW H × List MemPlace} (h : DataW.trod enc Tryz.prog W base spare held fuel 27 cs = some x) : ∃ r n : Int, cs = [.int .i64 r, .int .i64 n] ∧ (-9223372036854775808 ≤ r ∧ r ≤ 9223372036854775807) ∧ (-9223372036854775808 ≤ n ∧ n ≤ 9223372036854775807) := by
  obtain ⟨y0, y1, n, _, hl, h0, h1⟩ := trod_struct2 Tryz.underlying27 h
  rw [cellsD] at hl
  obtain ⟨a, b, rfl⟩ : ∃ a b, cs = [a, b] := by
    rcases cs with _ | ⟨a, _ | ⟨b, _ | ⟨c, cs⟩⟩⟩
    · simp at hl
    · simp at hl
    · exact ⟨a, b, rfl⟩
    · simp at hl
  have g0 : DataW.trod enc Tryz.prog W base spare held n 3 (([a, b].drop 0).take (Tryz.prog.cellsOf 3)) = some y0 := h0
  have g1 : DataW.trod enc Tryz.prog W base spare held n 2 (([a, b].drop 1).take (Tryz.prog.cellsOf 2)) = some y1 := h1
  simp only [cellsN, cellsI, List.drop_succ_cons, List.drop_zero, List.take_succ_cons, List.take_zero] at g0 g1
  obtain ⟨r, hr, _, wr⟩ := DataW.trod_int Tryz.underlying3 g0
  obtain ⟨m, hm, _, wm⟩ := DataW.trod_int Tryz.underlying2 g1
  exact ⟨r, m, by simp at hr hm; rw [hr, hm], wf_i64 wr, wf_i64 wm⟩
theorem open_vec {fuel : Nat} {cs : List Value} {x : DataW H × List MemPlace} (h : DataW.trod enc Tryz.prog W base spare held fuel 29 cs = some x) : ∃ v : List Int, cs = v.map (Value.int .i64) ∧ v.length = 64 := by
  obtain ⟨xs, m, _, _, hl, hlen, hf⟩ := DataW.trod_array Tryz.underlying29 h
  rw [cellsC] at hl
  have key : ∀ i, i < 64 → ∃ n : Int, cs[i]? = some (.int .i64 n) := by
    intro i hi
    have h1 := hf i hi
    rw [cellsI, List.getElem?_eq_getElem (by omega)] at h1
    obtain ⟨n, hn, _⟩ := DataW.trod_int Tryz.underlying2 h1
    refine ⟨n, ?_⟩
    have h2 : ((cs.drop (i * 1)).take 1)[0]? = some (.int .i64 n) := by rw [hn]; rfl
    rw [List.getElem?_take, if_pos (by decide), List.getElem?_drop] at h2
    simpa using h2
  have key2 : ∀ i, i < 64 → ∃ n : Int, True ∧ cs[i]? = some (.int .i64 n) := fun i hi => by obtain ⟨n, hn⟩ := key i hi; exact ⟨n, trivial, hn⟩
  obtain ⟨f, hf2⟩ := Go.Deep.choose_lt key2
  refine ⟨(List.range 64).map f, ?_, by simp⟩
  apply List.ext_getElem?
  intro i
  rcases Nat.lt_or_ge i 64 with hi | hi
  · rw [(hf2 i hi).2]; simp [hi]
  · rw [List.getElem?_eq_none (by omega), List.getElem?_eq_none (by simp; omega)]
theorem split79 {cs : List Value} : cs = cs.take 2 ++ ((cs.drop 2).take 1 ++ ((cs.drop 3).take 64 ++ ((cs.drop 67).take 1 ++ ((cs.drop 68).take 2 ++ ((cs.drop 70).take 1 ++ ((cs.drop 71).take 2 ++ ((cs.drop 73).take 1 ++ cs.drop 74))))))) := by
  have e : ∀ (a b : Nat) (l : List Value), l.drop a = (l.drop a).take b ++ l.drop (a + b) := fun a b l => by
    rw [← List.drop_drop]
    exact (List.take_append_drop b (l.drop a)).symm
  exact (List.take_append_drop 2 cs).symm.trans (congrArg (cs.take 2 ++ ·) ((e 2 1 cs).trans (congrArg ((cs.drop 2).take 1 ++ ·) ((e 3 64 cs).trans (congrArg ((cs.drop 3).take 64 ++ ·) ((e 67 1 cs).trans (congrArg ((cs.drop 67).take 1 ++ ·) ((e 68 2 cs).trans (congrArg ((cs.drop 68).take 2 ++ ·) ((e 70 1 cs).trans (congrArg ((cs.drop 70).take 1 ++ ·) ((e 71 2 cs).trans (congrArg ((cs.drop 71).take 2 ++ ·) (e 73 1 cs))))))))))))))
theorem open_op {fuel : Nat} {cs : List Value} {x : DataW H × List MemPlace} (h : DataW.trod enc Tryz.prog W base spare held fuel 36 cs = some x) : ∃ o t, cs = o.c.toList ∧ OpIn W o t := by
  obtain ⟨xs, n, _, _, hl, hlen, hf⟩ := DataW.trod_struct Tryz.underlying36 h
  rw [cellsO] at hl
  have g : ∀ i : Nat, i < 9 → ∃ y, xs[i]? = some y := fun i hi => ⟨xs[i]'(by rw [hlen]; exact hi), List.getElem?_eq_getElem _⟩
  obtain ⟨y0, e0⟩ := g 0 (by decide)
  obtain ⟨y1, e1⟩ := g 1 (by decide)
  obtain ⟨y2, e2⟩ := g 2 (by decide)
  obtain ⟨y3, e3⟩ := g 3 (by decide)
  obtain ⟨y4, e4⟩ := g 4 (by decide)
  obtain ⟨y5, e5⟩ := g 5 (by decide)
  obtain ⟨y6, e6⟩ := g 6 (by decide)
  obtain ⟨y7, e7⟩ := g 7 (by decide)
  obtain ⟨y8, e8⟩ := g 8 (by decide)
  have h0 : DataW.trod enc Tryz.prog W base spare held n 27 ((cs.drop 0).take (Tryz.prog.cellsOf 27)) = some y0 := (hf 0 _ rfl).trans e0
  have h1 : DataW.trod enc Tryz.prog W base spare held n 2 ((cs.drop 2).take (Tryz.prog.cellsOf 2)) = some y1 := (hf 1 _ rfl).trans e1
  have h2 : DataW.trod enc Tryz.prog W base spare held n 29 ((cs.drop 3).take (Tryz.prog.cellsOf 29)) = some y2 := (hf 2 _ rfl).trans e2
  have h3 : DataW.trod enc Tryz.prog W base spare held n 3 ((cs.drop 67).take (Tryz.prog.cellsOf 3)) = some y3 := (hf 3 _ rfl).trans e3
  have h4 : DataW.trod enc Tryz.prog W base spare held n 27 ((cs.drop 68).take (Tryz.prog.cellsOf 27)) = some y4 := (hf 4 _ rfl).trans e4
  have h5 : DataW.trod enc Tryz.prog W base spare held n 9 ((cs.drop 70).take (Tryz.prog.cellsOf 9)) = some y5 := (hf 5 _ rfl).trans e5
  have h6 : DataW.trod enc Tryz.prog W base spare held n 27 ((cs.drop 71).take (Tryz.prog.cellsOf 27)) = some y6 := (hf 6 _ rfl).trans e6
  have h7 : DataW.trod enc Tryz.prog W base spare held n 3 ((cs.drop 73).take (Tryz.prog.cellsOf 3)) = some y7 := (hf 7 _ rfl).trans e7
  have h8 : DataW.trod enc Tryz.prog W base spare held n 34 ((cs.drop 74).take (Tryz.prog.cellsOf 34)) = some y8 := (hf 8 _ rfl).trans e8
  rw [cellsD] at h0 h4 h6
  rw [cellsI] at h1
  rw [cellsC] at h2
  rw [cellsN] at h3 h7
  rw [cellsS] at h5
  rw [cellsV, List.take_of_length_le (by simp; omega)] at h8
  rw [List.drop_zero] at h0
  obtain ⟨R, N, p0, rr, rn⟩ := open_id h0
  obtain ⟨T, p1, _, wT⟩ := DataW.trod_int Tryz.underlying2 h1
  obtain ⟨seen, p2, hs⟩ := open_vec h2
  obtain ⟨K, p3, _, wK⟩ := DataW.trod_int Tryz.underlying3 h3
  obtain ⟨OR, ON, p4, _, _⟩ := open_id h4
  obtain ⟨key, p5, _, hk⟩ := DataW.trod_string Tryz.underlying9 h5
  obtain ⟨AR, AN, p6, _, _⟩ := open_id h6
  obtain ⟨M, p7, _, wM⟩ := DataW.trod_int Tryz.underlying3 h7
  obtain ⟨t, p8, ht⟩ := open_val n _ _ h8
  have hmax : maxLen = 9223372036854775807 := by decide
  refine ⟨{ R, N, T, seen, K, OR, ON, key, AR, AN, M, VK := t.k, VN := t.n, VS := t.s, VL := t.L, VM := t.M }, t, ?_, ⟨hs, rfl, ht, hmax ▸ hk, rr, rn, wf_i64 wT⟩⟩
  rw [split79 (cs := cs), p0, p1, p2, p3, p4, p5, p6, p7, p8]
  simp [OpV.c, OpV.l, OpV.v, VT.c]
end
end Go.Proofs.YteplcnpmdjdlkaaGreatDoor
