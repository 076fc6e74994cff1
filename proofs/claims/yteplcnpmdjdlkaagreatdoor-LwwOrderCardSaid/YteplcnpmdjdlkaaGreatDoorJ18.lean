/-
  A slice that came in, read as data, is a row of elements, each read as data. No condition.
  Slices of words and of whole numbers that came in, read as data. No condition.
-/
import Derived.Test.YteplcnpmdjdlkaaGreatDoorOpenJ
import Derived.Test.YteplcnpmdjdlkaaGreatDoorJ16
namespace Go.Proofs.YteplcnpmdjdlkaaGreatDoor
open Go.RowKit Go.ChangeShapes
set_option linter.unusedVariables false
section
variable {H : Type} {enc : TypeId × Value → H} {W : World} {base : Nat} {spare : Nat → Bool} {held : Bool}
/-- A slice's elements, each told by 'each'. -/
theorem open_slice {T E : TypeId} (ht : Tryz.prog.underlying T = some (.slice E)) {sz : Nat} (hsz : Tryz.prog.cellsOf E = sz) (h0 : 0 < sz) {K : Type} [Inhabited K] (C : K → List Value) (Pk : K → Prop)
    (each : ∀ (n : Nat) cs y, DataW.trod enc Tryz.prog W base spare held n E cs = some y → ∃ x : K, cs = C x ∧ Pk x) {fuel : Nat} {cs : List Value} {x : DataW H × List MemPlace} (h : DataW.trod enc Tryz.prog W base spare held fuel T cs = some x) :
    ∃ (A : Option Addr) (g o c : Nat) (L : List K), cs = [.slice A L.length c] ∧ (0 < L.length → A = some ⟨g, o, none⟩ ∧ g < W.heap.size) ∧ (∀ (i : Nat) x, L[i]? = some x → ∀ (j : Nat) v, (C x)[j]? = some v → W.cell? ⟨g, o + i * sz + j, none⟩ = some v) ∧ (∀ x ∈ L, Pk x) ∧ L.length ≤ 9223372036854775807 := by
  rcases DataW.trod_slice ht h with ⟨hc, _⟩ | ⟨a, len, cap, elems, rst, n', hn, hc, _, hb, hlc, hcap, hel, he, _, _⟩
  · exact ⟨none, 0, 0, 0, [], hc, fun h => absurd h (Nat.lt_irrefl 0), fun i x hx => by simp at hx, fun x hx => absurd hx (List.not_mem_nil), Nat.zero_le _⟩
  · have key : ∀ i, i < len → ∃ t : K, W.cells? base (a.add (i * sz)) sz = some (C t) ∧ Pk t := by
      intro i hi
      have := he i hi
      rw [List.getElem?_eq_getElem (by omega), hsz] at this
      obtain ⟨cs', q1, q2⟩ := Option.bind_eq_some_iff.1 this
      obtain ⟨t, rfl, ht⟩ := each n' cs' _ q2
      exact ⟨t, q1, ht⟩
    obtain ⟨F, hF⟩ := Go.Deep.choose_lt key
    have hL : ((List.range len).map F).length = len := by simp
    have hget : ∀ (i : Nat) x, ((List.range len).map F)[i]? = some x → i < len ∧ F i = x := by
      intro i x hx
      have hi : i < len := by have := (List.getElem?_eq_some_iff.1 hx).1; simpa using this
      refine ⟨hi, ?_⟩
      simpa [hi] using hx
    have hm63 : len ≤ 9223372036854775807 := by
      have : maxLen = 9223372036854775807 := by decide
      omega
    have hmem : ∀ x ∈ (List.range len).map F, Pk x := fun x hx => by
      obtain ⟨i, hi, rfl⟩ := List.mem_map.1 hx
      exact (hF i (List.mem_range.1 hi)).2
    rcases Nat.eq_zero_or_pos len with hz | hz
    · subst hz
      exact ⟨some a, 0, 0, cap, [], hc, fun h => absurd h (Nat.lt_irrefl 0), fun i x hx => by simp at hx, fun x hx => absurd hx (List.not_mem_nil), Nat.zero_le _⟩
    · obtain ⟨r1, r2, r3⟩ := row_at h0 hz (C := fun i => C (F i)) (fun i hi => (hF i hi).1)
      refine ⟨some a, a.block, a.off, cap, (List.range len).map F, by rw [hL]; exact hc, fun _ => ⟨by rw [← r1], r2⟩, fun i x hx j v hv => ?_, hmem, by rw [hL]; exact hm63⟩
      obtain ⟨hi, rfl⟩ := hget i x hx
      exact r3 i hi j v hv
end
end Go.Proofs.YteplcnpmdjdlkaaGreatDoor
namespace Go.Proofs.YteplcnpmdjdlkaaGreatDoor
open Go.RowKit Go.ChangeShapes
set_option linter.unusedVariables false
instance : Inhabited WordV := ⟨⟨0, 0, ⟨#[]⟩, false, 0⟩⟩
section
variable {H : Type} {enc : TypeId × Value → H} {W : World} {base : Nat} {spare : Nat → Bool} {held : Bool}
theorem cellsW : Tryz.prog.cellsOf 39 = 5 := by kernel_rfl
theorem cellsInt : Tryz.prog.cellsOf 3 = 1 := by kernel_rfl
theorem cellsBool : Tryz.prog.cellsOf 4 = 1 := by kernel_rfl
theorem open_word (fuel : Nat) (cs : List Value) (x : DataW H × List MemPlace) (h : DataW.trod enc Tryz.prog W base spare held fuel 39 cs = some x) : ∃ t : WordV, cs = t.c.toList ∧ t.Ok := by
  obtain ⟨xs, n, _, _, hl, hlen, hf⟩ := DataW.trod_struct Tryz.underlying39 h
  rw [cellsW] at hl
  obtain ⟨c0, c1, c2, c3, c4, rfl⟩ := five hl
  have g : ∀ i : Nat, i < 5 → ∃ y, xs[i]? = some y := fun i hi => ⟨xs[i]'(by rw [hlen]; exact hi), List.getElem?_eq_getElem _⟩
  obtain ⟨y0, e0⟩ := g 0 (by decide)
  obtain ⟨y1, e1⟩ := g 1 (by decide)
  obtain ⟨y2, e2⟩ := g 2 (by decide)
  obtain ⟨y3, e3⟩ := g 3 (by decide)
  obtain ⟨y4, e4⟩ := g 4 (by decide)
  have h0 : DataW.trod enc Tryz.prog W base spare held n 3 (([c0, c1, c2, c3, c4].drop 0).take (Tryz.prog.cellsOf 3)) = some y0 := (hf 0 _ rfl).trans e0
  have h1 : DataW.trod enc Tryz.prog W base spare held n 2 (([c0, c1, c2, c3, c4].drop 1).take (Tryz.prog.cellsOf 2)) = some y1 := (hf 1 _ rfl).trans e1
  have h2 : DataW.trod enc Tryz.prog W base spare held n 9 (([c0, c1, c2, c3, c4].drop 2).take (Tryz.prog.cellsOf 9)) = some y2 := (hf 2 _ rfl).trans e2
  have h3 : DataW.trod enc Tryz.prog W base spare held n 4 (([c0, c1, c2, c3, c4].drop 3).take (Tryz.prog.cellsOf 4)) = some y3 := (hf 3 _ rfl).trans e3
  have h4 : DataW.trod enc Tryz.prog W base spare held n 2 (([c0, c1, c2, c3, c4].drop 4).take (Tryz.prog.cellsOf 2)) = some y4 := (hf 4 _ rfl).trans e4
  simp only [cellsInt, cellsI, cellsS, cellsBool, List.drop_succ_cons, List.drop_zero, List.take_succ_cons, List.take_zero] at h0 h1 h2 h3 h4
  obtain ⟨R, hR, _, wR⟩ := DataW.trod_int Tryz.underlying3 h0
  obtain ⟨T, hT, _, wT⟩ := DataW.trod_int Tryz.underlying2 h1
  obtain ⟨s, hs, _, hsz⟩ := DataW.trod_string Tryz.underlying9 h2
  obtain ⟨f, hf', _⟩ := DataW.trod_bool Tryz.underlying4 h3
  obtain ⟨m, hm, _, wm⟩ := DataW.trod_int Tryz.underlying2 h4
  obtain rfl : c0 = .int .i64 R := by simpa using hR
  obtain rfl : c1 = .int .i64 T := by simpa using hT
  obtain rfl : c2 = .string s := by simpa using hs
  obtain rfl : c3 = .bool f := by simpa using hf'
  obtain rfl : c4 = .int .i64 m := by simpa using hm
  exact ⟨⟨R, T, s, f, m⟩, rfl, ⟨wf_i64 wR, wf_i64 wT, wf_i64 wm, show s.size ≤ _ by have : maxLen = 9223372036854775807 := (by decide); omega⟩⟩
theorem open_words {fuel : Nat} {cs : List Value} {x : DataW H × List MemPlace} (h : DataW.trod enc Tryz.prog W base spare held fuel 45 cs = some x) :
    ∃ (A : Option Addr) (g o c : Nat) (L : List WordV), cs = [.slice A L.length c] ∧ WsIn W.heap.size W A g o L := by
  obtain ⟨A, g, o, c, L, hc, ha, hcell, hp, _⟩ := open_slice Tryz.underlying45 cellsW (by decide) (fun t : WordV => t.c.toList) WordV.Ok (fun n cs y hy => open_word n cs y hy) h
  exact ⟨A, g, o, c, L, hc, ⟨ha, fun i x hx j v hv => hcell i x hx j v (by simpa using hv), hp⟩⟩
theorem open_nums {fuel : Nat} {cs : List Value} {x : DataW H × List MemPlace} (h : DataW.trod enc Tryz.prog W base spare held fuel 52 cs = some x) :
    ∃ (A : Option Addr) (g o c : Nat) (L : List Int), cs = [.slice A L.length c] ∧ NsIn W.heap.size W A g o L ∧ L.length ≤ 9223372036854775807 := by
  obtain ⟨A, g, o, c, L, hc, ha, hcell, hp, hl⟩ := open_slice Tryz.underlying52 cellsInt (by decide) (fun n : Int => [Value.int .i64 n]) (fun n => -9223372036854775808 ≤ n ∧ n ≤ 9223372036854775807) (fun n cs y hy => by
    obtain ⟨R, hR, _, wR⟩ := DataW.trod_int Tryz.underlying3 hy
    exact ⟨R, hR, wf_i64 wR⟩) h
  exact ⟨A, g, o, c, L, hc, ⟨ha, fun i n hn => by have := hcell i n hn 0 _ rfl; simpa using this⟩, hl⟩
end
end Go.Proofs.YteplcnpmdjdlkaaGreatDoor
