/-
  A value that came in, read as data, is a tree that lies in memory. No condition.
-/
import Derived.Test.YteplcnpmdjdlkaaGreatDoorJ9
import Derived.ChangeArms
import Derived.ChangeSame
import Derived.OpenShut
import Derived.Deep.Slices
import Derived.Carry
namespace Go.Proofs.YteplcnpmdjdlkaaGreatDoor
open Go.RowKit Go.ChangeShapes
set_option linter.unusedVariables false
set_option linter.unusedSimpArgs false
set_option linter.unusedSectionVars false
theorem wf_i64 {n : Int} (h : (Lit.int .i64 n).wf = true) : -9223372036854775808 ≤ n ∧ n ≤ 9223372036854775807 := by
  have h2 : (decide (IntKind.i64.min ≤ n) && decide (n ≤ IntKind.i64.max)) = true := h
  have e1 : IntKind.i64.min = -9223372036854775808 := by decide
  have e2 : IntKind.i64.max = 9223372036854775807 := by decide
  rw [e1, e2] at h2
  simpa using h2
section
variable {H : Type} {enc : TypeId × Value → H} {W : World} {base : Nat} {spare : Nat → Bool} {held : Bool}
theorem cellsV : Tryz.prog.cellsOf 34 = 5 := by kernel_rfl
theorem cellsP : Tryz.prog.cellsOf 79 = 6 := by kernel_rfl
theorem cellsK : Tryz.prog.cellsOf 30 = 1 := by kernel_rfl
theorem cellsI : Tryz.prog.cellsOf 2 = 1 := by kernel_rfl
theorem cellsS : Tryz.prog.cellsOf 9 = 1 := by kernel_rfl
theorem cellsL : Tryz.prog.cellsOf 31 = 1 := by kernel_rfl
theorem cellsM : Tryz.prog.cellsOf 32 = 1 := by kernel_rfl
/-- Where elements of so many cells lie. -/
theorem row_at {a : Addr} {len sz : Nat} (hsz : 0 < sz) (hlen : 0 < len) {C : Nat → List Value} (hC : ∀ i, i < len → W.cells? base (a.add (i * sz)) sz = some (C i)) :
    a = ⟨a.block, a.off, none⟩ ∧ a.block < W.heap.size ∧ ∀ i, i < len → ∀ j v, (C i)[j]? = some v → W.cell? ⟨a.block, a.off + i * sz + j, none⟩ = some v := by
  have h0 := World.cells?_some (hC 0 hlen)
  have hc0 := h0.2.2 0 hsz
  have hl0 := h0.2.1
  rw [List.getElem?_eq_getElem (by omega)] at hc0
  have e0 : (a.add (0 * sz)).add 0 = a := by simp [Addr.add]
  rw [e0] at hc0
  have hspot : a.spot = none := by
    unfold World.cell? at hc0
    split at hc0
    · split at hc0
      · cases hc0
      · rename_i hs; cases h : a.spot <;> simp_all
    · cases hc0
  have hblk := World.block_lt_of_cell? W a hc0
  obtain ⟨b, o, s⟩ := a
  simp only at hspot hblk ⊢
  subst hspot
  refine ⟨rfl, hblk, fun i hi j v hv => ?_⟩
  have h1 := World.cells?_some (hC i hi)
  have hj : j < sz := by rw [← h1.2.1]; exact (List.getElem?_eq_some_iff.1 hv).1
  have h2 := h1.2.2 j hj
  rw [hv] at h2
  rw [← h2]
  congr 1
  unfold Addr.add
  by_cases q1 : i * sz = 0 <;> by_cases q2 : j = 0 <;> simp [q1, q2] <;> omega
theorem five {cs : List Value} (h : cs.length = 5) : ∃ a b c d e, cs = [a, b, c, d, e] := by
  match cs, h with
  | [a, b, c, d, e], _ => exact ⟨a, b, c, d, e, rfl⟩
theorem open_val : ∀ (fuel : Nat) (cs : List Value) (x : DataW H × List MemPlace), DataW.trod enc Tryz.prog W base spare held fuel 34 cs = some x → ∃ t : VT, cs = t.c.toList ∧ VT.In W.heap.size W t := by
  intro fuel
  induction fuel using Nat.strongRecOn with
  | _ fuel ih =>
    intro cs x h
    obtain ⟨xs, n, rfl, rfl, hl, hlen, hf⟩ := DataW.trod_struct Tryz.underlying34 h
    rw [cellsV] at hl
    obtain ⟨c0, c1, c2, c3, c4, rfl⟩ := five hl
    have g : ∀ i : Nat, i < 5 → ∃ y, xs[i]? = some y := fun i hi => ⟨xs[i]'(by rw [hlen]; exact hi), List.getElem?_eq_getElem _⟩
    obtain ⟨y0, e0⟩ := g 0 (by decide)
    obtain ⟨y1, e1⟩ := g 1 (by decide)
    obtain ⟨y2, e2⟩ := g 2 (by decide)
    obtain ⟨y3, e3⟩ := g 3 (by decide)
    obtain ⟨y4, e4⟩ := g 4 (by decide)
    have h0 : DataW.trod enc Tryz.prog W base spare held n 30 (([c0, c1, c2, c3, c4].drop 0).take (Tryz.prog.cellsOf 30)) = some y0 := (hf 0 _ rfl).trans e0
    have h1 : DataW.trod enc Tryz.prog W base spare held n 2 (([c0, c1, c2, c3, c4].drop 1).take (Tryz.prog.cellsOf 2)) = some y1 := (hf 1 _ rfl).trans e1
    have h2 : DataW.trod enc Tryz.prog W base spare held n 9 (([c0, c1, c2, c3, c4].drop 2).take (Tryz.prog.cellsOf 9)) = some y2 := (hf 2 _ rfl).trans e2
    have h3 : DataW.trod enc Tryz.prog W base spare held n 31 (([c0, c1, c2, c3, c4].drop 3).take (Tryz.prog.cellsOf 31)) = some y3 := (hf 3 _ rfl).trans e3
    have h4 : DataW.trod enc Tryz.prog W base spare held n 32 (([c0, c1, c2, c3, c4].drop 4).take (Tryz.prog.cellsOf 32)) = some y4 := (hf 4 _ rfl).trans e4
    simp only [cellsK, cellsI, cellsS, cellsL, cellsM, List.drop_succ_cons, List.drop_zero, List.take_succ_cons, List.take_zero] at h0 h1 h2 h3 h4
    obtain ⟨k, hk, _, wk⟩ := DataW.trod_int Tryz.underlying30 h0
    obtain ⟨m, hm, _, wm⟩ := DataW.trod_int Tryz.underlying2 h1
    obtain ⟨s, hs, _, hsz⟩ := DataW.trod_string Tryz.underlying9 h2
    have wk := wf_i64 wk
    have wm := wf_i64 wm
    have hL : ∃ (A : Option Addr) (b o len cap : Nat) (T : Nat → VT), c3 = .slice A len cap ∧ len ≤ 9223372036854775807 ∧ (0 < len → A = some ⟨b, o, none⟩ ∧ b < W.heap.size) ∧ (∀ i, i < len → ∀ j v, (VT.c (T i))[j]? = some v → W.cell? ⟨b, o + i * 5 + j, none⟩ = some v) ∧ ∀ i, i < len → VT.In W.heap.size W (T i) := by
      rcases DataW.trod_slice Tryz.underlying31 h3 with ⟨hc, _⟩ | ⟨a, len, cap, elems, rst, n', hn, hc, _, hb, hlc, hcap, hel, he, _, _⟩
      · exact ⟨none, 0, 0, 0, 0, fun _ => .no, by simpa using hc, by decide, fun h => absurd h (by decide), fun i hi => absurd hi (Nat.not_lt_zero i), fun i hi => absurd hi (Nat.not_lt_zero i)⟩
      · have key : ∀ i, i < len → ∃ t : VT, W.cells? base (a.add (i * 5)) 5 = some t.c.toList ∧ VT.In W.heap.size W t := by
          intro i hi
          have := he i hi
          rw [List.getElem?_eq_getElem (by omega), cellsV] at this
          obtain ⟨cs', q1, q2⟩ := Option.bind_eq_some_iff.1 this
          obtain ⟨t, rfl, ht⟩ := ih n' (by omega) cs' _ q2
          exact ⟨t, q1, ht⟩
        have inh : Inhabited VT := ⟨.no⟩
        obtain ⟨T, hT⟩ := Go.Deep.choose_lt key
        have hm63 : len ≤ 9223372036854775807 := by
          have : maxLen = 9223372036854775807 := by decide
          omega
        rcases Nat.eq_zero_or_pos len with h0 | h0
        · subst h0
          exact ⟨some a, 0, 0, 0, cap, T, by simpa using hc, by decide, fun h => absurd h (by decide), fun i hi => absurd hi (Nat.not_lt_zero i), fun i hi => absurd hi (Nat.not_lt_zero i)⟩
        · obtain ⟨r1, r2, r3⟩ := row_at (sz := 5) (by decide) h0 (C := fun i => (T i).c.toList) (fun i hi => (hT i hi).1)
          exact ⟨some a, a.block, a.off, len, cap, T, by simpa using hc, hm63, fun _ => ⟨by rw [← r1], r2⟩, fun i hi j v hv => r3 i hi j v (by simpa using hv), fun i hi => (hT i hi).2⟩
    have hM : ∃ (A : Option Addr) (b o len cap : Nat) (K : Nat → ByteArray) (T : Nat → VT), c4 = .slice A len cap ∧ len ≤ 9223372036854775807 ∧ (0 < len → A = some ⟨b, o, none⟩ ∧ b < W.heap.size) ∧ (∀ i, i < len → ∀ j v, ((Value.string (K i)) :: (VT.c (T i)).toList)[j]? = some v → W.cell? ⟨b, o + i * 6 + j, none⟩ = some v) ∧ (∀ i, i < len → (K i : ByteArray).size ≤ 9223372036854775807) ∧ ∀ i, i < len → VT.In W.heap.size W (T i) := by
      rcases DataW.trod_slice Tryz.underlying32 h4 with ⟨hc, _⟩ | ⟨a, len, cap, elems, rst, n', hn, hc, _, hb, hlc, hcap, hel, he, _, _⟩
      · exact ⟨none, 0, 0, 0, 0, fun _ => ⟨#[]⟩, fun _ => .no, by simpa using hc, by decide, fun h => absurd h (by decide), fun i hi => absurd hi (Nat.not_lt_zero i), fun i hi => absurd hi (Nat.not_lt_zero i), fun i hi => absurd hi (Nat.not_lt_zero i)⟩
      · have key : ∀ i, i < len → ∃ p : ByteArray × VT, W.cells? base (a.add (i * 6)) 6 = some (.string p.1 :: p.2.c.toList) ∧ p.1.size ≤ 9223372036854775807 ∧ VT.In W.heap.size W p.2 := by
          intro i hi
          have := he i hi
          rw [List.getElem?_eq_getElem (by omega), cellsP] at this
          obtain ⟨cs', q1, q2⟩ := Option.bind_eq_some_iff.1 this
          obtain ⟨ys, n2, hn2, _, hl2, hlen2, hf2⟩ := DataW.trod_struct Tryz.underlying79 q2
          rw [cellsP] at hl2
          have z0 : ∃ y, ys[0]? = some y := ⟨ys[0]'(by rw [hlen2]; decide), List.getElem?_eq_getElem _⟩
          have z1 : ∃ y, ys[1]? = some y := ⟨ys[1]'(by rw [hlen2]; decide), List.getElem?_eq_getElem _⟩
          obtain ⟨u0, z0⟩ := z0
          obtain ⟨u1, z1⟩ := z1
          have k0 : DataW.trod enc Tryz.prog W base spare held n2 9 ((cs'.drop 0).take (Tryz.prog.cellsOf 9)) = some u0 := (hf2 0 _ rfl).trans z0
          have k1 : DataW.trod enc Tryz.prog W base spare held n2 34 ((cs'.drop 1).take (Tryz.prog.cellsOf 34)) = some u1 := (hf2 1 _ rfl).trans z1
          obtain ⟨d, ds, rfl⟩ : ∃ d ds, cs' = d :: ds := by
            cases cs' with
            | nil => simp at hl2
            | cons d ds => exact ⟨d, ds, rfl⟩
          · simp only [cellsS, cellsV, List.drop_succ_cons, List.drop_zero, List.take_succ_cons, List.take_zero] at k0 k1
            obtain ⟨ks, hks, _, hksz⟩ := DataW.trod_string Tryz.underlying9 k0
            have hds : ds.length = 5 := by simpa using hl2
            rw [List.take_of_length_le (by omega)] at k1
            obtain ⟨t, rfl, ht⟩ := ih n2 (by omega) ds _ k1
            obtain rfl : d = .string ks := by simpa using hks
            have : maxLen = 9223372036854775807 := by decide
            exact ⟨(ks, t), q1, by simp only; omega, ht⟩
        have inh : Inhabited (ByteArray × VT) := ⟨(⟨#[]⟩, .no)⟩
        obtain ⟨T, hT⟩ := Go.Deep.choose_lt key
        have hm63 : len ≤ 9223372036854775807 := by
          have : maxLen = 9223372036854775807 := by decide
          omega
        rcases Nat.eq_zero_or_pos len with h0 | h0
        · subst h0
          exact ⟨some a, 0, 0, 0, cap, fun i => (T i).1, fun i => (T i).2, by simpa using hc, by decide, fun h => absurd h (by decide), fun i hi => absurd hi (Nat.not_lt_zero i), fun i hi => absurd hi (Nat.not_lt_zero i), fun i hi => absurd hi (Nat.not_lt_zero i)⟩
        · obtain ⟨r1, r2, r3⟩ := row_at (sz := 6) (by decide) h0 (C := fun i => .string (T i).1 :: (T i).2.c.toList) (fun i hi => (hT i hi).1)
          exact ⟨some a, a.block, a.off, len, cap, fun i => (T i).1, fun i => (T i).2, by simpa using hc, hm63, fun _ => ⟨by rw [← r1], r2⟩, fun i hi j v hv => r3 i hi j v hv, fun i hi => (hT i hi).2.1, fun i hi => (hT i hi).2.2⟩
    obtain ⟨A, b, o, len, cap, T, rfl, l1, l2, l3, l4⟩ := hL
    obtain ⟨A', b', o', len', cap', K, T', rfl, m1, m2, m3, m4, m5⟩ := hM
    obtain rfl : c0 = .int .i64 k := by simpa using hk
    obtain rfl : c1 = .int .i64 m := by simpa using hm
    obtain rfl : c2 = .string s := by simpa using hs
    refine ⟨.mk k m s A b o len cap T A' b' o' len' cap' K T', rfl, .mk ⟨wm.1, wm.2, wk.1, wk.2, ?_, l1, m1, l2, m2, l3, ?_, m4⟩ l4 m5⟩
    · have : maxLen = 9223372036854775807 := by decide
      exact this ▸ hsz
    · intro i hi j v hv
      refine m3 i hi j v ?_
      rw [← hv]
      simp [VT.pc, VT.c, VT.key, VT.mt]
end
end Go.Proofs.YteplcnpmdjdlkaaGreatDoor
