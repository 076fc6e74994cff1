/-
  The shelf's contracts at this dump, in plain words. No condition.
  An operation that came in, read as data, is a row of 79 cells over a tree that lies in memory. No condition.
  An operation over its value; one that may be has a value without parts. No condition.
  slices.Sorted(maps.Keys(m)) over a map of operations by strings; maps.Clone of it. Condition: each key stands once.
  ops.Copy tells an operation alike. Condition: the operation's value has no parts.
-/
import Derived.Shelf.SlIter.Nil
import Derived.Shelf.SortM.Plain
import Derived.Shelf.SortM.SortNone
import Derived.Shelf.SlMaps.Clone
import Derived.Ground.GgzProg
import Derived.Ground.SlgmProg
import Derived.Ground.SlmcProg
import Derived.Test.YtffcpmohanhihaaGreatDoorProg
import Derived.Test.YtffcpmohanhihaaGreatDoorJ14
import Derived.Test.YtffcpmohanhihaaGreatDoorJ10
import Derived.Test.YtffcpmohanhihaaGreatDoorJ12
import Derived.Test.YtffcpmohanhihaaGreatDoorJ6
import Derived.Test.YtffcpmohanhihaaGreatDoorJ7
import Derived.Test.YtffcpmohanhihaaGreatDoorJ16
namespace Go.Proofs
open Go.Shelf
def Tryz.keysA_ren : Go.Shelf.Ren := ⟨fun | 7 => 93 | 10 => 108 | n => n, fun | 23 => 118 | 26 => 9 | 3 => 40 | 28 => 142 | 0 => 0 | 27 => 141 | 33 => 110 | 4 => 4 | n => n, fun | n => n⟩
theorem Tryz.keysA : Go.Proofs.SlLaysZ.n7 Tryz.prog Tryz.keysA_ren := {
  mixed := by kernel_rfl
  f7 := ⟨Tryz.f93.name, by decide, Tryz.func93.trans (congrArg some (by kernel_rfl))⟩
  f10 := ⟨Tryz.f108.name, by decide, Tryz.func108.trans (congrArg some (by kernel_rfl))⟩
  t0 := Tryz.underlying0
  a0 := Tryz.isAgg0
  z0 := Tryz.sizeOf0
  v0 := Tryz.zeroValue0
  t4 := Tryz.underlying4
  a4 := Tryz.isAgg4
  z4 := Tryz.sizeOf4
  v4 := Tryz.zeroValue4
  t23 := Tryz.underlying118
  a23 := Tryz.isAgg118
  z23 := Tryz.sizeOf118
  v23 := Tryz.zeroValue118
  t26 := Tryz.underlying9
  a26 := Tryz.isAgg9
  z26 := Tryz.sizeOf9
  v26 := Tryz.zeroValue9
  t27 := Tryz.underlying141
  a27 := Tryz.isAgg141
  z27 := Tryz.sizeOf141
  v27 := Tryz.zeroValue141
  t28 := Tryz.underlying142
  a28 := Tryz.isAgg142
  z28 := Tryz.sizeOf142
  v28 := Tryz.zeroValue142
  t33 := Tryz.underlying110
  a33 := Tryz.isAgg110
  z33 := Tryz.sizeOf110
  v33 := Tryz.zeroValue110 }
def Tryz.sortedA_ren : Go.Shelf.Ren := ⟨fun | 6 => 92 | 8 => 106 | 9 => 107 | 11 => 123 | 13 => 125 | 12 => 124 | 23 => 142 | 24 => 143 | 14 => 133 | 15 => 134 | 16 => 135 | 17 => 136 | 18 => 137 | 19 => 138 | 20 => 139 | 21 => 140 | 22 => 141 | 25 => 149 | 26 => 150 | 27 => 151 | 28 => 152 | 29 => 153 | 30 => 154 | 31 => 160 | n => n, fun | 26 => 9 | 28 => 142 | 24 => 85 | 0 => 0 | 3 => 3 | 37 => 159 | 48 => 188 | 50 => 190 | 4 => 4 | 40 => 182 | 39 => 181 | 45 => 125 | 5 => 5 | 9 => 9 | 51 => 192 | 55 => 196 | 57 => 207 | 58 => 144 | 33 => 110 | n => n, fun | n => n⟩
theorem Tryz.sortedA : Go.Proofs.SlLaysZ.n6 Tryz.prog Tryz.sortedA_ren := {
  mixed := by kernel_rfl
  f6 := ⟨Tryz.f92.name, by decide, Tryz.func92.trans (congrArg some (by kernel_rfl))⟩
  f8 := ⟨Tryz.f106.name, by decide, Tryz.func106.trans (congrArg some (by kernel_rfl))⟩
  f11 := ⟨Tryz.f123.name, by decide, Tryz.func123.trans (congrArg some (by kernel_rfl))⟩
  t0 := Tryz.underlying0
  a0 := Tryz.isAgg0
  z0 := Tryz.sizeOf0
  v0 := Tryz.zeroValue0
  t24 := Tryz.underlying85
  a24 := Tryz.isAgg85
  z24 := Tryz.sizeOf85
  v24 := Tryz.zeroValue85
  t26 := Tryz.underlying9
  a26 := Tryz.isAgg9
  z26 := Tryz.sizeOf9
  v26 := Tryz.zeroValue9
  t28 := Tryz.underlying142
  a28 := Tryz.isAgg142
  z28 := Tryz.sizeOf142
  v28 := Tryz.zeroValue142
  i26 := by kernel_rfl }
def Tryz.sortA_ren : Go.Shelf.Ren := ⟨fun | 6 => 107 | 8 => 125 | 9 => 124 | 19 => 142 | 20 => 143 | 21 => 133 | 22 => 134 | 23 => 135 | 24 => 136 | 25 => 137 | 26 => 138 | 27 => 139 | 28 => 140 | 29 => 141 | 36 => 149 | 31 => 150 | 32 => 151 | 37 => 152 | 38 => 153 | 39 => 154 | 41 => 160 | n => n, fun | 27 => 85 | 29 => 9 | 3 => 3 | 32 => 159 | 26 => 85 | 0 => 0 | 44 => 188 | 46 => 190 | 4 => 4 | 36 => 182 | 35 => 181 | 41 => 125 | 5 => 5 | 9 => 9 | 53 => 192 | 57 => 196 | 63 => 207 | 64 => 144 | n => n, fun | n => n⟩
theorem Tryz.sortA : Go.Proofs.SlLaysM.n6 Tryz.prog Tryz.sortA_ren := {
  mixed := by kernel_rfl
  f6 := ⟨Tryz.f107.name, by decide, Tryz.func107.trans (congrArg some (by kernel_rfl))⟩
  f8 := Tryz.func125.trans (congrArg some (by kernel_rfl))
  f9 := ⟨Tryz.f124.name, by decide, Tryz.func124.trans (congrArg some (by kernel_rfl))⟩
  f19 := Tryz.func142.trans (congrArg some (by kernel_rfl))
  f20 := Tryz.func143.trans (congrArg some (by kernel_rfl))
  f21 := ⟨Tryz.f133.name, by decide, Tryz.func133.trans (congrArg some (by kernel_rfl))⟩
  f22 := ⟨Tryz.f134.name, by decide, Tryz.func134.trans (congrArg some (by kernel_rfl))⟩
  f23 := ⟨Tryz.f135.name, by decide, Tryz.func135.trans (congrArg some (by kernel_rfl))⟩
  f24 := ⟨Tryz.f136.name, by decide, Tryz.func136.trans (congrArg some (by kernel_rfl))⟩
  f25 := ⟨Tryz.f137.name, by decide, Tryz.func137.trans (congrArg some (by kernel_rfl))⟩
  f26 := ⟨Tryz.f138.name, by decide, Tryz.func138.trans (congrArg some (by kernel_rfl))⟩
  f27 := ⟨Tryz.f139.name, by decide, Tryz.func139.trans (congrArg some (by kernel_rfl))⟩
  f28 := ⟨Tryz.f140.name, by decide, Tryz.func140.trans (congrArg some (by kernel_rfl))⟩
  f29 := ⟨Tryz.f141.name, by decide, Tryz.func141.trans (congrArg some (by kernel_rfl))⟩
  f31 := Tryz.func150.trans (congrArg some (by kernel_rfl))
  f32 := Tryz.func151.trans (congrArg some (by kernel_rfl))
  f36 := ⟨Tryz.f149.name, by decide, Tryz.func149.trans (congrArg some (by kernel_rfl))⟩
  f37 := ⟨Tryz.f152.name, by decide, Tryz.func152.trans (congrArg some (by kernel_rfl))⟩
  f38 := ⟨Tryz.f153.name, by decide, Tryz.func153.trans (congrArg some (by kernel_rfl))⟩
  f39 := ⟨Tryz.f154.name, by decide, Tryz.func154.trans (congrArg some (by kernel_rfl))⟩
  f41 := ⟨Tryz.f160.name, by decide, Tryz.func160.trans (congrArg some (by kernel_rfl))⟩
  t0 := Tryz.underlying0
  a0 := Tryz.isAgg0
  z0 := Tryz.sizeOf0
  v0 := Tryz.zeroValue0
  t3 := Tryz.underlying3
  a3 := Tryz.isAgg3
  z3 := Tryz.sizeOf3
  v3 := Tryz.zeroValue3
  t4 := Tryz.underlying4
  a4 := Tryz.isAgg4
  z4 := Tryz.sizeOf4
  v4 := Tryz.zeroValue4
  t5 := Tryz.underlying5
  a5 := Tryz.isAgg5
  z5 := Tryz.sizeOf5
  v5 := Tryz.zeroValue5
  t9 := Tryz.underlying9
  a9 := Tryz.isAgg9
  z9 := Tryz.sizeOf9
  v9 := Tryz.zeroValue9
  t26 := Tryz.underlying85
  a26 := Tryz.isAgg85
  z26 := Tryz.sizeOf85
  v26 := Tryz.zeroValue85
  t27 := Tryz.underlying85
  a27 := Tryz.isAgg85
  z27 := Tryz.sizeOf85
  v27 := Tryz.zeroValue85
  t29 := Tryz.underlying9
  a29 := Tryz.isAgg9
  z29 := Tryz.sizeOf9
  v29 := Tryz.zeroValue9
  t32 := Tryz.underlying159
  a32 := Tryz.isAgg159
  z32 := Tryz.sizeOf159
  v32 := Tryz.zeroValue159
  t35 := Tryz.underlying181
  a35 := Tryz.isAgg181
  z35 := Tryz.sizeOf181
  v35 := Tryz.zeroValue181
  t36 := Tryz.underlying182
  a36 := Tryz.isAgg182
  z36 := Tryz.sizeOf182
  v36 := Tryz.zeroValue182
  t41 := Tryz.underlying125
  a41 := Tryz.isAgg125
  z41 := Tryz.sizeOf125
  v41 := Tryz.zeroValue125
  t44 := Tryz.underlying188
  a44 := Tryz.isAgg188
  z44 := Tryz.sizeOf188
  v44 := Tryz.zeroValue188
  t46 := Tryz.underlying190
  a46 := Tryz.isAgg190
  z46 := Tryz.sizeOf190
  v46 := Tryz.zeroValue190
  t53 := Tryz.underlying192
  a53 := Tryz.isAgg192
  z53 := Tryz.sizeOf192
  v53 := Tryz.zeroValue192
  t57 := Tryz.underlying196
  a57 := Tryz.isAgg196
  z57 := Tryz.sizeOf196
  v57 := Tryz.zeroValue196
  t63 := Tryz.underlying207
  a63 := Tryz.isAgg207
  z63 := Tryz.sizeOf207
  v63 := Tryz.zeroValue207
  t64 := Tryz.underlying144
  a64 := Tryz.isAgg144
  z64 := Tryz.sizeOf144
  v64 := Tryz.zeroValue144 }
end Go.Proofs
namespace Go.Proofs.YtffcpmohanhihaaGreatDoor
open Go.RowKit Go.ChangeShapes
set_option linter.unusedVariables false
set_option linter.unusedSimpArgs false
/-- What an operation that came in is. -/
structure OpIn (W : World) (o : OpV) (t : VT) : Prop where
  seen : o.seen.length = 64
  vc : o.vc = t.c
  tin : VT.In W.heap.size W t
  key : o.key.size ≤ 9223372036854775807
  r : -9223372036854775808 ≤ o.R ∧ o.R ≤ 9223372036854775807
  n : -9223372036854775808 ≤ o.N ∧ o.N ≤ 9223372036854775807
  t : -9223372036854775808 ≤ o.T ∧ o.T ≤ 9223372036854775807
section
variable {H : Type} {enc : TypeId × Value → H} {W : World} {base : Nat} {spare : Nat → Bool} {held : Bool}
theorem cellsO : Tryz.prog.cellsOf 40 = 79 := by kernel_rfl
theorem cellsD : Tryz.prog.cellsOf 31 = 2 := by kernel_rfl
theorem cellsC : Tryz.prog.cellsOf 33 = 64 := by kernel_rfl
theorem cellsN : Tryz.prog.cellsOf 3 = 1 := by kernel_rfl
theorem open_id {fuel : Nat} {cs : List Value} {x : DataW H × List MemPlace} (h : DataW.trod enc Tryz.prog W base spare held fuel 31 cs = some x) : ∃ r n : Int, cs = [.int .i64 r, .int .i64 n] ∧ (-9223372036854775808 ≤ r ∧ r ≤ 9223372036854775807) ∧ (-9223372036854775808 ≤ n ∧ n ≤ 9223372036854775807) := by
  obtain ⟨y0, y1, n, _, hl, h0, h1⟩ := trod_struct2 Tryz.underlying31 h
  rw [cellsD] at hl
  obtain ⟨a, b, rfl⟩ : ∃ a b, cs = [a, b] := by
    rcases cs with _ | ⟨a, _ | ⟨b, _ | ⟨c, cs⟩⟩⟩
    · simp at hl
    · simp at hl
    · exact ⟨a, b, rfl⟩
    · simp at hl
  have g0 : DataW.trod enc Tryz.prog W base spare held n 3 (([a, b].drop 0).take (Tryz.prog.cellsOf 3)) = some y0 := h0
  have g1 : DataW.trod enc Tryz.prog W base spare held n 2 (([a, b].drop 1).take (Tryz.prog.cellsOf 2)) = some y1 := h1
  simp only [cellsN, cellsI, List.drop_succ_cons, List.drop_zero, List.take_succ_cons, List.take_zero] at g0 g1
  obtain ⟨r, hr, _, wr⟩ := DataW.trod_int Tryz.underlying3 g0
  obtain ⟨m, hm, _, wm⟩ := DataW.trod_int Tryz.underlying2 g1
  exact ⟨r, m, by simp at hr hm; rw [hr, hm], wf_i64 wr, wf_i64 wm⟩
theorem open_vec {fuel : Nat} {cs : List Value} {x : DataW H × List MemPlace} (h : DataW.trod enc Tryz.prog W base spare held fuel 33 cs = some x) : ∃ v : List Int, cs = v.map (Value.int .i64) ∧ v.length = 64 := by
  obtain ⟨xs, m, _, _, hl, hlen, hf⟩ := DataW.trod_array Tryz.underlying33 h
  rw [cellsC] at hl
  have key : ∀ i, i < 64 → ∃ n : Int, cs[i]? = some (.int .i64 n) := by
    intro i hi
    have h1 := hf i hi
    rw [cellsI, List.getElem?_eq_getElem (by omega)] at h1
    obtain ⟨n, hn, _⟩ := DataW.trod_int Tryz.underlying2 h1
    refine ⟨n, ?_⟩
    have h2 : ((cs.drop (i * 1)).take 1)[0]? = some (.int .i64 n) := by rw [hn]; rfl
    rw [List.getElem?_take, if_pos (by decide), List.getElem?_drop] at h2
    simpa using h2
  have key2 : ∀ i, i < 64 → ∃ n : Int, True ∧ cs[i]? = some (.int .i64 n) := fun i hi => by obtain ⟨n, hn⟩ := key i hi; exact ⟨n, trivial, hn⟩
  obtain ⟨f, hf2⟩ := Go.Deep.choose_lt key2
  refine ⟨(List.range 64).map f, ?_, by simp⟩
  apply List.ext_getElem?
  intro i
  rcases Nat.lt_or_ge i 64 with hi | hi
  · rw [(hf2 i hi).2]; simp [hi]
  · rw [List.getElem?_eq_none (by omega), List.getElem?_eq_none (by simp; omega)]
theorem split79 {cs : List Value} : cs = cs.take 2 ++ ((cs.drop 2).take 1 ++ ((cs.drop 3).take 64 ++ ((cs.drop 67).take 1 ++ ((cs.drop 68).take 2 ++ ((cs.drop 70).take 1 ++ ((cs.drop 71).take 2 ++ ((cs.drop 73).take 1 ++ cs.drop 74))))))) := by
  have e : ∀ (a b : Nat) (l : List Value), l.drop a = (l.drop a).take b ++ l.drop (a + b) := fun a b l => by
    rw [← List.drop_drop]
    exact (List.take_append_drop b (l.drop a)).symm
  exact (List.take_append_drop 2 cs).symm.trans (congrArg (cs.take 2 ++ ·) ((e 2 1 cs).trans (congrArg ((cs.drop 2).take 1 ++ ·) ((e 3 64 cs).trans (congrArg ((cs.drop 3).take 64 ++ ·) ((e 67 1 cs).trans (congrArg ((cs.drop 67).take 1 ++ ·) ((e 68 2 cs).trans (congrArg ((cs.drop 68).take 2 ++ ·) ((e 70 1 cs).trans (congrArg ((cs.drop 70).take 1 ++ ·) ((e 71 2 cs).trans (congrArg ((cs.drop 71).take 2 ++ ·) (e 73 1 cs))))))))))))))
theorem open_op {fuel : Nat} {cs : List Value} {x : DataW H × List MemPlace} (h : DataW.trod enc Tryz.prog W base spare held fuel 40 cs = some x) : ∃ o t, cs = o.c.toList ∧ OpIn W o t := by
  obtain ⟨xs, n, _, _, hl, hlen, hf⟩ := DataW.trod_struct Tryz.underlying40 h
  rw [cellsO] at hl
  have g : ∀ i : Nat, i < 9 → ∃ y, xs[i]? = some y := fun i hi => ⟨xs[i]'(by rw [hlen]; exact hi), List.getElem?_eq_getElem _⟩
  obtain ⟨y0, e0⟩ := g 0 (by decide)
  obtain ⟨y1, e1⟩ := g 1 (by decide)
  obtain ⟨y2, e2⟩ := g 2 (by decide)
  obtain ⟨y3, e3⟩ := g 3 (by decide)
  obtain ⟨y4, e4⟩ := g 4 (by decide)
  obtain ⟨y5, e5⟩ := g 5 (by decide)
  obtain ⟨y6, e6⟩ := g 6 (by decide)
  obtain ⟨y7, e7⟩ := g 7 (by decide)
  obtain ⟨y8, e8⟩ := g 8 (by decide)
  have h0 : DataW.trod enc Tryz.prog W base spare held n 31 ((cs.drop 0).take (Tryz.prog.cellsOf 31)) = some y0 := (hf 0 _ rfl).trans e0
  have h1 : DataW.trod enc Tryz.prog W base spare held n 2 ((cs.drop 2).take (Tryz.prog.cellsOf 2)) = some y1 := (hf 1 _ rfl).trans e1
  have h2 : DataW.trod enc Tryz.prog W base spare held n 33 ((cs.drop 3).take (Tryz.prog.cellsOf 33)) = some y2 := (hf 2 _ rfl).trans e2
  have h3 : DataW.trod enc Tryz.prog W base spare held n 3 ((cs.drop 67).take (Tryz.prog.cellsOf 3)) = some y3 := (hf 3 _ rfl).trans e3
  have h4 : DataW.trod enc Tryz.prog W base spare held n 31 ((cs.drop 68).take (Tryz.prog.cellsOf 31)) = some y4 := (hf 4 _ rfl).trans e4
  have h5 : DataW.trod enc Tryz.prog W base spare held n 9 ((cs.drop 70).take (Tryz.prog.cellsOf 9)) = some y5 := (hf 5 _ rfl).trans e5
  have h6 : DataW.trod enc Tryz.prog W base spare held n 31 ((cs.drop 71).take (Tryz.prog.cellsOf 31)) = some y6 := (hf 6 _ rfl).trans e6
  have h7 : DataW.trod enc Tryz.prog W base spare held n 3 ((cs.drop 73).take (Tryz.prog.cellsOf 3)) = some y7 := (hf 7 _ rfl).trans e7
  have h8 : DataW.trod enc Tryz.prog W base spare held n 38 ((cs.drop 74).take (Tryz.prog.cellsOf 38)) = some y8 := (hf 8 _ rfl).trans e8
  rw [cellsD] at h0 h4 h6
  rw [cellsI] at h1
  rw [cellsC] at h2
  rw [cellsN] at h3 h7
  rw [cellsS] at h5
  rw [cellsV, List.take_of_length_le (by simp; omega)] at h8
  rw [List.drop_zero] at h0
  obtain ⟨R, N, p0, rr, rn⟩ := open_id h0
  obtain ⟨T, p1, _, wT⟩ := DataW.trod_int Tryz.underlying2 h1
  obtain ⟨seen, p2, hs⟩ := open_vec h2
  obtain ⟨K, p3, _, wK⟩ := DataW.trod_int Tryz.underlying3 h3
  obtain ⟨OR, ON, p4, _, _⟩ := open_id h4
  obtain ⟨key, p5, _, hk⟩ := DataW.trod_string Tryz.underlying9 h5
  obtain ⟨AR, AN, p6, _, _⟩ := open_id h6
  obtain ⟨M, p7, _, wM⟩ := DataW.trod_int Tryz.underlying3 h7
  obtain ⟨t, p8, ht⟩ := open_val n _ _ h8
  have hmax : maxLen = 9223372036854775807 := by decide
  refine ⟨{ R, N, T, seen, K, OR, ON, key, AR, AN, M, VK := t.k, VN := t.n, VS := t.s, VL := t.L, VM := t.M }, t, ?_, ⟨hs, rfl, ht, hmax ▸ hk, rr, rn, wf_i64 wT⟩⟩
  rw [split79 (cs := cs), p0, p1, p2, p3, p4, p5, p6, p7, p8]
  simp [OpV.c, OpV.l, OpV.v, VT.c]
end
end Go.Proofs.YtffcpmohanhihaaGreatDoor
namespace Go.Proofs.YtffcpmohanhihaaGreatDoor
open Go.RowKit
set_option linter.unusedVariables false
set_option linter.unusedSimpArgs false
structure OT where
  o : OpV
  t : VT
namespace OT
def good (x : OT) : Bool := opB x.o (goodT x.t) (sameV x.t .no) (validS x.o.key).2
def same (x y : OT) : Bool := sameO x.o y.o x.t y.t
def v (x : OT) : Value := opv x.o
/-- What holds of an operation in whatever world. -/
structure Ok (x : OT) : Prop where
  seen : x.o.seen.length = 64
  vc : x.o.vc = x.t.c
  key : x.o.key.size ≤ 9223372036854775807
  r : -9223372036854775808 ≤ x.o.R ∧ x.o.R ≤ 9223372036854775807
  n : -9223372036854775808 ≤ x.o.N ∧ x.o.N ≤ 9223372036854775807
  t : -9223372036854775808 ≤ x.o.T ∧ x.o.T ≤ 9223372036854775807
  tin : ∀ B W, VT.In B W x.t
  ln : x.t.ln = 0
  mn : x.t.mn = 0
end OT
theorem VT.In.bare {B B' : Nat} {W W' : World} {t : VT} (h : VT.In B W t) (hl : t.ln = 0) (hm : t.mn = 0) : VT.In B' W' t :=
  .mk { h.here with
      la := fun hn => absurd hn (by omega)
      ma := fun hn => absurd hn (by omega)
      lcell := fun i hi => absurd hi (by omega)
      mcell := fun i hi => absurd hi (by omega) }
    (fun i hi => absurd hi (by omega)) (fun i hi => absurd hi (by omega))
theorem VT.Sm.bare {t : VT} (hl : t.ln = 0) (hm : t.mn = 0) : VT.Sm t := .mk (by omega) (by omega) (fun i hi => absurd hi (by omega)) (fun i hi => absurd hi (by omega))
theorem own_of_good {t : VT} (h : goodT t = true) : ownV t = true := by
  cases hq : ownV t with
  | true => rfl
  | false =>
    exfalso
    unfold goodT at h
    cases t with
    | no => rw [judgeT, hq] at h; simp at h
    | mk k n s lA lb lo ln lc lt mA mb mo mn mc key mt => rw [judgeT, hq] at h; simp at h
theorem own_bare {t : VT} (h : ownV t = true) (h5 : (t.k == 5) = false) (h6 : (t.k == 6) = false) : t.ln = 0 ∧ t.mn = 0 := by
  unfold ownV ownB at h
  rw [h5, h6] at h
  generalize (intN t.s.data.toList).isSome = a1 at h
  generalize goodN t.s.data.toList = a2 at h
  generalize (letC t.s == 0) = a3 at h
  generalize stampB t.s = a4 at h
  repeat' split at h
  all_goals first
    | (cases h; done)
    | (simp only [Bool.and_eq_true, beq_iff_eq] at h; exact ⟨h.1.2, h.2⟩)
    | (rename_i h9; simp only [Bool.not_eq_true', Bool.or_eq_true, not_or, Bool.not_eq_false', Bool.not_eq_false, beq_iff_eq] at h9; exact ⟨h9.1.2, h9.2⟩)
    | simp_all
theorem same_no_bare {t : VT} (h : sameV t .no = true) : t.ln = 0 ∧ t.mn = 0 := by
  obtain ⟨_, _, h3, h4, _⟩ := sameV_parts h
  exact ⟨h3, h4⟩
/-- One that may be has a value without parts. -/
theorem good_bare {o : OpV} {t : VT} (hv : o.vc = t.c) (h : opB o (goodT t) (sameV t .no) (validS o.key).2 = true) : t.ln = 0 ∧ t.mn = 0 := by
  have hk : t.k = o.VK := by
    have := congrArg (fun a => a[0]?) hv
    simp [OpV.vc, VT.c] at this
    exact this.symm
  unfold opB at h
  simp only [Bool.and_eq_true] at h
  have hm := h.1.2
  unfold makesB at hm
  split at hm
  · simp only [Bool.and_eq_true, bne_iff_ne, ne_eq] at hm
    exact own_bare (own_of_good hm.2) (by rw [hk]; simpa using hm.1.1) (by rw [hk]; simpa using hm.1.2)
  · split at hm
    · exact same_no_bare hm
    · cases hm
theorem OpIn.ok {W : World} {o : OpV} {t : VT} (h : OpIn W o t) (hl : t.ln = 0) (hm : t.mn = 0) : OT.Ok ⟨o, t⟩ := ⟨h.seen, h.vc, h.key, h.r, h.n, h.t, fun B W' => h.tin.bare hl hm, hl, hm⟩
theorem OT.Ok.opin {x : OT} (h : OT.Ok x) (W : World) : OpIn W x.o x.t := ⟨h.seen, h.vc, h.tin _ _, h.key, h.r, h.n, h.t⟩
/-- What being alike comes to. -/
structure OT.Same (x y : OT) : Prop where
  R : x.o.R = y.o.R
  N : x.o.N = y.o.N
  T : x.o.T = y.o.T
  seen : x.o.seen = y.o.seen
  K : x.o.K = y.o.K
  OR : x.o.OR = y.o.OR
  ON : x.o.ON = y.o.ON
  key : x.o.key = y.o.key
  AR : x.o.AR = y.o.AR
  AN : x.o.AN = y.o.AN
  M : x.o.M = y.o.M
  V : sameV x.t y.t = true
theorem OT.same_iff {x y : OT} : OT.same x y = true ↔ OT.Same x y := by
  unfold OT.same sameO
  constructor
  · intro h
    simp only [Bool.and_eq_true, beq_iff_eq] at h
    obtain ⟨⟨⟨⟨⟨⟨⟨⟨h1, h2, h3⟩, h4⟩, h5⟩, h6⟩, h7, h8⟩, h9⟩, h10, h11⟩, h12⟩ := h
    exact ⟨h2, h3, h4, h5, h6, h7, h8, ba_eq (by simpa using h9), h10, h11, h12, h1⟩
  · rintro ⟨h1, h2, h3, h4, h5, h6, h7, h8, h9, h10, h11, h12⟩
    simp [h1, h2, h3, h4, h5, h6, h7, h8, h9, h10, h11, h12]
theorem OT.Same.refl (x : OT) : OT.Same x x := ⟨rfl, rfl, rfl, rfl, rfl, rfl, rfl, rfl, rfl, rfl, rfl, sameV_self _⟩
theorem OT.Same.symm {x y : OT} (h : OT.Same x y) : OT.Same y x := ⟨h.R.symm, h.N.symm, h.T.symm, h.seen.symm, h.K.symm, h.OR.symm, h.ON.symm, h.key.symm, h.AR.symm, h.AN.symm, h.M.symm, sameV_symm h.V⟩
theorem OT.Same.trans {x y z : OT} (h : OT.Same x y) (k : OT.Same y z) : OT.Same x z := ⟨h.R.trans k.R, h.N.trans k.N, h.T.trans k.T, h.seen.trans k.seen, h.K.trans k.K, h.OR.trans k.OR, h.ON.trans k.ON, h.key.trans k.key, h.AR.trans k.AR, h.AN.trans k.AN, h.M.trans k.M, sameV_trans h.V k.V⟩
end Go.Proofs.YtffcpmohanhihaaGreatDoor
namespace Go.Proofs.YtffcpmohanhihaaGreatDoor
open Go.RowKit Go.Maps Go.Sort Go.Shelf Go.ChangeMaps
set_option linter.unusedVariables false
set_option linter.unusedSimpArgs false
/-- Bytes, as many as a text may have. -/
def KSz (k : ByteArray) : Prop := k.size ≤ 9223372036854775807
theorem max_is : maxLen = 9223372036854775807 := by decide
theorem ksz {k : ByteArray} (h : KSz k) : k.size ≤ maxLen := by rw [max_is]; exact h
theorem str_key : KeyF Tryz.prog 9 Value.string KSz :=
  ⟨string_keyed Tryz.underlying9, fun k hk => ⟨_, Go.WideMaps.keyOf_string_mk Tryz.underlying9 (ksz hk)⟩, fun a b h => by injection h⟩
theorem rg_keys {V : Type} (vf : V → Value) (l : List (ByteArray × V)) (hl : KeysIn KSz l) (n : Nat) : (entsOf Value.string vf n l).map (Go.WideElems.rg (H := Nat) Tryz.prog 9 (fun _ => some (DataW.nil, []))) = l.map fun p => (Lit.string p.1.data.toList, DataW.nil) := by
  have ha := hl.all
  clear hl
  induction l generalizing n with
  | nil => rfl
  | cons p r ih =>
    obtain ⟨a, b⟩ := p
    simp only [entsOf, List.map_cons]
    rw [ih (n + 1) (fun q hq => ha q (List.mem_cons_of_mem _ hq))]
    have hk := Go.WideMaps.keyOf_string_mk Tryz.underlying9 (ksz (ha (a, b) (List.mem_cons_self ..)))
    have h := Go.WideElems.rd_mk (H := Nat) (R := fun _ => some (DataW.nil, [])) (val := vf b) (born := n) (yv := (DataW.nil, [])) hk rfl
    rw [Go.WideElems.rg_of h]
theorem words_own {V : Type} {vf : V → Value} {l : List (ByteArray × V)} {w : World} {b : Nat} (hl : KeysIn KSz l) (hn : l.length ≤ 9223372036854775807) (hb : w.heap[b]? = some (mapO Value.string vf l)) :
    ∃ D : DataW Nat, w.ownsMap Tryz.prog 9 (fun _ => some (DataW.nil, [])) b l.length D ∧ Maps.size D = l.length ∧ (strKeys D).Perm (l.map fun p => p.1.data.toList) := by
  refine ⟨.map (((entsOf Value.string vf 0 l).map (Go.WideElems.rg (H := Nat) Tryz.prog 9 (fun _ => some (DataW.nil, [])))).foldr DataW.insert []), ⟨_, _, hb, ⟨by rw [List.size_toArray, ents_len, max_is]; exact hn, ?_, fun x hx => ?_⟩, by simp [ents_len], by simp⟩, ?_, ?_⟩
  · have hg : ∀ i (x : MapEntry), (entsOf Value.string vf 0 l)[i]? = some x → x.born = i ∧ ∃ p, l[i]? = some p ∧ x.key = .string p.1 := fun i x hx => by
      rw [ents_get] at hx
      obtain ⟨p, hp, rfl⟩ := Option.map_eq_some_iff.1 hx
      exact ⟨Nat.zero_add i, p, hp, rfl⟩
    refine ⟨fun x hx => ?_, ?_, ?_⟩
    · obtain ⟨i, hi⟩ := List.getElem?_of_mem hx
      obtain ⟨h1, p, hp, _⟩ := hg i x (by simpa using hi)
      have := (List.getElem?_eq_some_iff.1 hp).1
      omega
    · have e : (entsOf Value.string vf 0 l).map (·.born) = List.range l.length := by
        apply List.ext_getElem?
        intro i
        rw [List.getElem?_map, ents_get]
        rcases Nat.lt_or_ge i l.length with h | h
        · simp [h]
        · simp [h]
      rw [e]
      exact List.nodup_range
    · have e : (entsOf Value.string vf 0 l).map (·.key) = (l.map Prod.fst).map Value.string := by
        apply List.ext_getElem?
        intro i
        rw [List.getElem?_map, ents_get, List.map_map, List.getElem?_map]
        simp [Function.comp_def]
      show (List.map (·.key) (entsOf Value.string vf 0 l)).Nodup
      rw [e]
      exact List.Pairwise.map _ (fun a b h e => h (by injection e)) hl.nodup
  · obtain ⟨p, hp, h1, h2⟩ := ents_mem (by simpa using hx)
    exact ⟨_, Go.WideElems.rd_mk (yv := (DataW.nil, [])) (born := x.born) (by rw [h1]; exact Go.WideMaps.keyOf_string_mk Tryz.underlying9 (ksz (hl.all p hp))) rfl⟩
  · show (((entsOf Value.string vf 0 l).map _).foldr DataW.insert []).length = _
    rw [length_sorted, List.length_map, ents_len]
  · show ((((entsOf Value.string vf 0 l).map _).foldr DataW.insert []).map fun p => strOf p.1).Perm _
    refine ((Go.WideShapes.sorted_perm _).map _).trans (List.Perm.of_eq ?_)
    rw [rg_keys vf l hl 0, List.map_map]
    rfl
theorem sorts_fence (m : Nat) : AnyZ.SortsIn Tryz.prog Tryz.sortedA_ren Fence.wide m :=
  ⟨fun blk off cap ss W hH hblk hsz => callsIn_wide.2 (AnyM.slices_Sort_string Tryz.sortA blk off cap ss W hH hblk hsz),
   fun p cap W => callsIn_wide.2 (AnyM.slices_Sort_string_none Tryz.sortA p cap W)⟩
theorem keys_call (mb : Option Nat) (W : World) : Calls Tryz.prog 93 #[.map mb] W fun e w' => e = .returned (.func (.func 108) #[] #[.pointer (some ⟨W.heap.size, 0, none⟩)]) ∧ w' = W.alloc (.cells #[.map mb] 118) :=
  (callsIn_wide (n := 5)).1 (AnyZ.keys_in Tryz.keysA Fence.wide 5 trivial rfl mb W)
theorem sorted_call {V : Type} {vf : V → Value} (l : List (ByteArray × V)) (w : World) (b : Nat) (hl : KeysIn KSz l) (hn : l.length ≤ 1000000) (hb : w.heap[b]? = some (mapO Value.string vf l)) :
    Calls Tryz.prog 92 #[.func (.func 108) #[] #[.pointer (some ⟨w.heap.size, 0, none⟩)]] (w.alloc (.cells #[.map (some b)] 118)) fun e w' => ∃ (v : Value) (ss : List (List UInt8)), e = .returned v ∧ ss.Perm (l.map fun p => p.1.data.toList) ∧
      w'.ownsRow w.heap.size 9 1 v ss.length ((ss.mergeSort (fun x y => decide (x ≤ y))).map encStr) ∧ (v = .slice none 0 0 ↔ ss = []) ∧ Below w.heap.size w w' := by
  obtain ⟨D, hown, hsz, hperm⟩ := words_own (w := w) (b := b) (vf := vf) hl (by omega) hb
  have hbl := hown.lt
  have hseq : SeqGives Fence.wide 2 Tryz.prog 108 #[.pointer (some ⟨w.heap.size, 0, none⟩)] encStr (fun ss => ss.Perm (strKeys D)) (Maps.size D) (w.alloc (.cells #[.map (some b)] 118)) :=
    AnyZ.keys_gives (ρ := Tryz.keysA_ren) { Tryz.keysA with } Fence.wide _ trivial rfl (by omega) w.heap.size b l.length D _ (by simp) (by simp) (by
      obtain ⟨es, clock, hb, Ft, hs, hD⟩ := hown
      exact ⟨es, clock, (Below.heap_alloc _ _ b hbl).trans hb, Ft, hs, hD⟩)
  have cS := AnyZ.sorted_in Tryz.sortedA Fence.wide 5 trivial trivial trivial trivial rfl (by omega) (sorts_fence _) (enters_of Tryz.func107 (by kernel_rfl) rfl) 108 #[.pointer (some ⟨w.heap.size, 0, none⟩)] trivial (enters_of Tryz.func108 (by kernel_rfl) rfl) _ _ (by rw [hsz, max_is]; omega) (by rw [hsz]; omega) _ hseq
  change CallsIn _ _ Tryz.prog 92 _ _ _ at cS
  refine ((callsIn_wide (n := 5)).1 cS).mono ?_
  rintro e w' ⟨v, ss, rfl, hS, hrow, hnil, hbw⟩
  exact ⟨v, ss, rfl, hS.trans hperm, ownsRow_base_a hrow (by simp), hnil, ((Below.refl _ w).alloc (Nat.le_refl _) _).trans (hbw.mono (by simp))⟩
end Go.Proofs.YtffcpmohanhihaaGreatDoor
namespace Go.Proofs.YtffcpmohanhihaaGreatDoor
open Go.RowKit
set_option linter.unusedVariables false
set_option linter.unusedSimpArgs false
def OT.put (x : OT) (t : VT) : OT := ⟨{ x.o with VK := t.k, VN := t.n, VS := t.s, VL := t.L, VM := t.M }, t⟩
def opHead (o : OpV) : List Value := [Value.int .i64 o.R, Value.int .i64 o.N, Value.int .i64 o.T] ++ o.seen.map (Value.int .i64) ++ [Value.int .i64 o.K, Value.int .i64 o.OR, Value.int .i64 o.ON, Value.string o.key, Value.int .i64 o.AR, Value.int .i64 o.AN, Value.int .i64 o.M]
theorem put_c (x : OT) (t : VT) (h : x.o.seen.length = 64) : (x.o.c.toList.take 74 ++ t.c.toList ++ x.o.c.toList.drop 79).toArray = (x.put t).o.c := by
  have e : x.o.c.toList = opHead x.o ++ x.o.v := by simp [OpV.c, OpV.l, opHead]
  have hl : (opHead x.o).length = 74 := by simp [opHead, h]
  rw [e, List.take_left' hl, List.drop_eq_nil_of_le (by rw [List.length_append, hl]; simp [OpV.v])]
  simp [OT.put, OpV.c, OpV.l, OpV.v, VT.c, opHead]
theorem ot_one {x : OT} (h : x.o.vc = x.t.c) : x.o.c.all (·.oneCell') = true := by
  have h3 := congrArg (fun a => a[3]?) h
  have h4 := congrArg (fun a => a[4]?) h
  simp [OpV.vc, VT.c] at h3 h4
  exact op_one (by rw [h3]; rfl) (by rw [h4]; rfl)
set_option maxRecDepth 100000 in
set_option maxHeartbeats 2000000 in
theorem oCopy_any (x : OT) (w : World) (hx : OT.Ok x) : Calls Tryz.prog 30 #[x.v] w fun e w' => ∃ y : OT, e = .returned y.v ∧ OT.Ok y ∧ OT.Same x y ∧ Below w.heap.size w w' := by
  have hs := hx.seen
  have HX := Lib.hid hx
  clear hx
  have hS : Boxes w (w.alloc (Obj.cells x.o.c 40)) [(w.heap.size, Obj.cells x.o.c 40)] := (Boxes.start w).alloc (Obj.cells x.o.c 40)
  have hW0 : (w.alloc (Obj.cells x.o.c 40)).heap.size = w.heap.size + 1 := Array.size_push ..
  show Calls Tryz.prog 30 #[opv x.o] w _
  go_enter Tryz.func30, Tryz.ntmps30
  go_wp2_with (first | go_skip | ((with_reducible refine gate_op (op := .alloc 40) rfl ?_); generalize (w.alloc (Obj.cells x.o.c 40)) = W0 at *; refine alloc_arm rfl 40 rfl (op_alloc _) ?_; intro wn hbn hgn; have hS1 := hS.new hbn hgn; rw [hW0] at hS1; clear hS hbn hgn; have hS := hS1; clear hS1) | (refine load_part rfl 38 (.tmp 3) rfl _ 74 rfl _ _ (0, 0) _ _ (hS.at_ 0 rfl) (OpV.pV hs) Tryz.underlying38 rfl (val_info _) ?_) | (go_at_call 56; rw [HX.out.vc]; refine (vCopy_any x.t _ (HX.out.tin _ _) (VT.Sm.bare HX.out.ln HX.out.mn)).mono ?_; rintro e wn ⟨y, rfl, hy, hbn⟩; have hS1 := hS.step hbn; clear hS hbn; have hS := hS1; clear hS1; have HY := Lib.hid hy; clear hy) | ((with_reducible refine gate_op (op := .store 38 (.tmp 6) (.tmp 5)) rfl ?_); refine store_sub rfl 38 (.tmp 6) (.tmp 5) rfl w.heap.size 74 y.c rfl rfl (all_mem (VT.c_one _)) 40 x.o.c (hS.at_ 0 rfl) (by rw [OpV.size hs]; exact Nat.le_refl 79) (VT.val_info _) ?_; intro wn hgn hon hbn hsn; rw [show 74 + y.c.size = 79 from rfl, put_c x y hs] at hgn; have hS1 := hS.put 0 rfl hon hbn hgn; clear hS hgn hon hbn hsn; have hS := hS1; clear hS1) | ((with_reducible refine gate_op (op := .load 40 (.tmp 1)) rfl ?_); refine wpList_load_row' rfl 40 (.tmp 1) rfl _ rfl 40 _ (0, 0) _ (hS.at_ 0 rfl) Tryz.underlying40 rfl (op_info _ hs) ?_) | ((with_reducible refine gate_op (op := .store 40 (.tmp 2) (.tmp 7)) rfl ?_); refine wpList_store_row rfl 40 (.tmp 2) (.tmp 7) rfl _ (x.put y).o.c rfl rfl 40 _ (hS.at_ 1 rfl) (op_info _ hs) ((OpV.size (o := zeroO) rfl).trans (OpV.size (o := (x.put y).o) hs).symm) (ot_one (x := x.put y) rfl) ?_; intro wn hbn hgn hon hsn; have hS1 := hS.put 1 rfl hon hbn hgn; clear hS hbn hgn hon hsn; have hS := hS1; clear hS1))
  have hln : y.ln = 0 := by obtain ⟨_, _, h3, _⟩ := sameV_parts HY.out.same; rw [h3]; exact HX.out.ln
  have hmn : y.mn = 0 := by obtain ⟨_, _, _, h4, _⟩ := sameV_parts HY.out.same; rw [h4]; exact HX.out.mn
  exact bodyPost_ret (v := opv (x.put y).o) (results_cell_row rfl _ _ _ _ _ _ _ rfl (hS.at_ 1 rfl) Tryz.underlying40 rfl (op_info (x.put y).o hs)) rfl
    ⟨x.put y, rfl, ⟨hs, rfl, HX.out.key, HX.out.r, HX.out.n, HX.out.t, fun B W => HY.out.tin.bare hln hmn, hln, hmn⟩, ⟨rfl, rfl, rfl, rfl, rfl, rfl, rfl, rfl, rfl, rfl, rfl, sameV_symm HY.out.same⟩, hS.below⟩
end Go.Proofs.YtffcpmohanhihaaGreatDoor
