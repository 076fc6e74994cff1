/-
  The walks of the package clock, on: Missing. No condition beside 64 numbers in a vector.
-/
import Derived.Test.YtlmligchjjgcmaaClk4
namespace Go.Proofs.Ytlmligchjjgcmaa
open Go.RowKit
set_option linter.unusedVariables false
set_option linter.unusedSimpArgs false

/-- Names as cells. -/
def idCells (l : List (Int × Int)) : List Value := l.flatMap fun p => [.int .i64 p.1, .int .i64 p.2]
theorem idCells_append (l m : List (Int × Int)) : idCells (l ++ m) = idCells l ++ idCells m := by simp [idCells]
/-- The first j of a replica's that are known to another one alone. -/
def missAt (v : List Int) (k j : Nat) : List (Int × Int) := (List.range j).map fun (i : Nat) => ((k : Int) + 1, kn (vat v k) + 1 + (i : Int))
theorem missAt_succ (v : List Int) (k j : Nat) : missAt v k (j + 1) = missAt v k j ++ [((k : Int) + 1, kn (vat v k) + 1 + j)] := by simp [missAt, List.range_succ]
def missTo (v u : List Int) : Nat → List (Int × Int)
  | 0 => []
  | k + 1 => missTo v u k ++ missAt v k (kn (vat u k) - kn (vat v k)).toNat
theorem missTo_length (v u : List Int) (k : Nat) : (missTo v u k).length ≤ 60 * k := by
  induction k with
  | zero => simp [missTo]
  | succ k ih =>
    have h1 := kn_range (vat u k)
    have h2 := kn_range (vat v k)
    simp only [missTo, List.length_append, missAt, List.length_map, List.length_range]
    omega
def missOf (v u : List Int) : List (Int × Int) := missTo v u 64
theorem id_info : (Try.prog.info? 27).map (fun i => (i.zero, i.size, i.bytes)) = some (some (.agg #[.int .i64 0, .int .i64 0]), 2, 16) := by kernel_rfl

/-- A slice of names, of the call's own. -/
def OwnIds (w : World) (base : Nat) (x : Value) (l : List (Int × Int)) : Prop := w.ownsRow base 27 2 x l.length (idCells l)

def MissPost (w : World) (l : List (Int × Int)) (e : Ending) (w' : World) : Prop := ∃ x, e = .returned x ∧ OwnIds w' w.heap.size x l ∧ Below w.heap.size w w'
theorem own_lower {w : World} {B B' : Nat} {x : Value} {l : List (Int × Int)} (h : OwnIds w B x l) (hB : B' ≤ B) : OwnIds w B' x l := by
  obtain ⟨h1, h2⟩ := h
  refine ⟨h1, ?_⟩
  rcases h2 with h2 | ⟨g, cap, cur, rfl, hg, r⟩
  · exact .inl h2
  · exact .inr ⟨g, cap, cur, rfl, by omega, r⟩
theorem own_step {w w1 : World} {B : Nat} {x : Value} {l : List (Int × Int)} (h : OwnIds w B x l) (hb : Below w.heap.size w w1) : OwnIds w1 B x l := own_below h hb

set_option maxHeartbeats 1000000 in
theorem Missing_any (v u : List Int) (w : World) (hv : v.length = 64) (hu : u.length = 64) :
    Calls Try.prog 13 #[.agg (vcells v), .agg (vcells u)] w (MissPost w (missOf v u)) := by
  have hi := vec_info v hv
  have hj := vec_info u hu
  go_enter Try.func13, Try.ntmps13
  go_wp2
  go_loopw [5, 6] (fun x i wr => ∃ k : Nat, k ≤ 64 ∧ i = .int .i64 (k + 1 : Nat) ∧ OwnIds wr (w.heap.size + 2) x (missTo v u k) ∧ Below w.heap.size w wr ∧ wr.heap[w.heap.size]? = some (.cells (vcells v) 24 (0, 0)) ∧ wr.heap[w.heap.size + 1]? = some (.cells (vcells u) 24 (0, 0))) (fun _ i _ => 65 - (intOf i).toNat)
  case atStart => exact ⟨0, by omega, rfl, own_nil _ _ _ _, ((Below.refl _ _).alloc (Nat.le_refl _) _).alloc (by simp) _, heap_alloc2_old _ _ _, heap_alloc2_new _ _ _⟩
  case round =>
    rename_i wr
    obtain ⟨k, hk, rfl, hx, hb, g0, g1⟩ := hrel
    by_cases hlt : k < 64
    · have hs0 : w.heap.size + 1 < wr.heap.size := (Array.getElem?_eq_some_iff.1 g1).1
      go_wp2_with (refine wpList_load_row' rfl 24 (.tmp 2) rfl _ rfl 24 _ (0, 0) _ g0 Try.underlying24 rfl hi ?_)
      refine (known_any _ _ _ hv (by omega) (by omega)).mono ?_
      rintro e w1 ⟨rfl, hb1⟩
      have hkr := kn_range (vat v k)
      have hku := kn_range (vat u k)
      have r0 := (hb1.block w.heap.size (by omega)).trans g0
      have r1 := (hb1.block (w.heap.size + 1) (by omega)).trans g1
      have rx := own_step hx hb1
      have rB := below_then hb hb.size hb1
      have hs1 := hb1.size
      clear g0 g1 hx hb hb1
      rw [know_add]
      go_wp2
      obtain ⟨wo, rfl⟩ : ∃ wo : World, wo = wr := ⟨_, rfl⟩
      go_loopw [5, 7] (fun x n wr => ∃ j : Nat, j ≤ (kn (vat u k) - kn (vat v k)).toNat ∧ n = .int .i64 (kn (vat v k) + 1 + j) ∧ OwnIds wr (w.heap.size + 2) x (missTo v u k ++ missAt v k j) ∧ Below w.heap.size w wr ∧ wr.heap[w.heap.size]? = some (.cells (vcells v) 24 (0, 0)) ∧ wr.heap[w.heap.size + 1]? = some (.cells (vcells u) 24 (0, 0))) (fun _ n _ => 61 - (intOf n).toNat)
      case atStart => exact ⟨0, by omega, by go_num, by simpa [missAt] using rx, rB, r0, r1⟩
      case round =>
        clear r0 r1 rx rB hs1 hs0
        rename_i wr
        obtain ⟨j, hjl, rfl, hx, hb, g0, g1⟩ := hrel
        have hs0 : w.heap.size + 1 < wr.heap.size := (Array.getElem?_eq_some_iff.1 g1).1
        go_wp2_with (refine wpList_load_row' rfl 24 (.tmp 3) rfl _ rfl 24 _ (0, 0) _ g1 Try.underlying24 rfl hj ?_)
        refine (known_any _ _ _ hu (by omega) (by omega)).mono ?_
        rintro e w3 ⟨rfl, hb3⟩
        have t0 := (hb3.block w.heap.size (by omega)).trans g0
        have t1 := (hb3.block (w.heap.size + 1) (by omega)).trans g1
        have tx := own_step hx hb3
        have tB := below_then hb hb.size hb3
        have hs3 := hb3.size
        clear g0 g1 hx hb hb3
        rw [know_add]
        by_cases hlt2 : j < (kn (vat u k) - kn (vat v k)).toNat
        · have htest : kn (vat v k) + 1 + j ≤ kn (vat u k) := by omega
          have hlen := missTo_length v u k
          have hlen2 : (missTo v u k ++ missAt v k j).length + 1 ≤ 3901 := by simp [missAt]; omega
          go_wp2_with (at_builtin; refine append_one rfl _ _ 32 27 rfl (w.heap.size + 2) (.agg #[.int .i64 0, .int .i64 0]) 2 16 Try.underlying32 id_info rfl (by decide) (by decide) _ _ _ (by rfl) tx _ rfl rfl (by rfl) (by omega) (by omega) ?_; intro x' w4 hx4 ho4 hb4)
          go_roundw
          case rel =>
            refine ⟨j + 1, by omega, by go_num, ?_, tB.trans (hb4.mono (by omega)), ?_, ?_⟩
            · unfold OwnIds
              rw [missAt_succ, ← List.append_assoc, idCells_append, List.length_append]
              exact hx4
            · rw [ho4 _ (by omega) (fun h => by have := (own_base tx _ h).1; omega)]; exact t0
            · rw [ho4 _ (by omega) (fun h => by have := (own_base tx _ h).1; omega)]; exact t1
          case measure => simp [intOf]; omega
        · obtain rfl : j = (kn (vat u k) - kn (vat v k)).toNat := by omega
          have htest : ¬ (kn (vat v k) + 1 + ((kn (vat u k) - kn (vat v k)).toNat : Int) ≤ kn (vat u k)) := by omega
          go_wp2
          go_roundw
          case rel => exact ⟨k + 1, by omega, by go_num, tx, tB, t0, t1⟩
          case measure => simp [intOf]; omega
    · obtain rfl : k = 64 := by omega
      go_wp2
      go_ret
      exact ⟨_, rfl, own_lower hx (by omega), hb⟩
end Go.Proofs.Ytlmligchjjgcmaa
