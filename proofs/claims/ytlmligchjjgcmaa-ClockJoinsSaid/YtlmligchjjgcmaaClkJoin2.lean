/-
  Missing tells nothing (no slice at all) where nothing is missing; a zero row built in a region of open order. No condition beside 64 numbers in each.
-/
import Derived.Test.YtlmligchjjgcmaaClkJoin1
import Derived.Test.YtlmligchjjgcmaaClk5
namespace Go.Proofs.Ytlmligchjjgcmaa
open Go.RowKit
set_option linter.unusedVariables false
set_option linter.unusedSimpArgs false
theorem quiet_build0 {P : Program} {C : World → Prop} {o : Oper} {a : Act} {K : Act → Prop} (t : TypeId) (ho : o.op = .build t #[]) (cs : Array Value) (hb : ∀ W, (Instr.build t #[]).run P W = .ok (.agg cs) W)
    (h : K (a.put o.dst (.agg cs))) : o.quiet P a C K := by
  refine ⟨_, fun w hw => ?_, h⟩
  unfold Oper.quietAt execOp
  simp only [ho, List.map_toArray, List.map_nil, Sem.run_bind, Sem.run_pure, hb, Result.andThen_ok]
  exact ⟨rfl, rfl⟩
set_option maxHeartbeats 1000000 in
theorem Missing_none (v u : List Int) (w : World) (hv : v.length = 64) (hu : u.length = 64) (hc : coversB v u = true) :
    Calls Try.prog 13 #[.agg (vcells v), .agg (vcells u)] w fun e w' => e = .returned (.slice none 0 0) ∧ Below w.heap.size w w' := by
  have hi := vec_info v hv
  have hj := vec_info u hu
  have hle := coversB_iff.1 hc
  go_enter Try.func13, Try.ntmps13
  go_wp2
  go_loopw [5, 6] (fun x i wr => ∃ k : Nat, k ≤ 64 ∧ x = .slice none 0 0 ∧ i = .int .i64 (k + 1 : Nat) ∧ Below w.heap.size w wr ∧ wr.heap[w.heap.size]? = some (.cells (vcells v) 24 (0, 0)) ∧ wr.heap[w.heap.size + 1]? = some (.cells (vcells u) 24 (0, 0))) (fun _ i _ => 65 - (intOf i).toNat)
  case atStart => exact ⟨0, by omega, rfl, rfl, ((Below.refl _ _).alloc (Nat.le_refl _) _).alloc (by simp) _, heap_alloc2_old _ _ _, heap_alloc2_new _ _ _⟩
  case round =>
    rename_i wr
    obtain ⟨k, hk, rfl, rfl, hb, g0, g1⟩ := hrel
    by_cases hlt : k < 64
    · have hs0 : w.heap.size + 1 < wr.heap.size := (Array.getElem?_eq_some_iff.1 g1).1
      go_wp2_with (refine wpList_load_row' rfl 24 (.tmp 2) rfl _ rfl 24 _ (0, 0) _ g0 Try.underlying24 rfl hi ?_)
      refine (known_any _ _ _ hv (by omega) (by omega)).mono ?_
      rintro e w1 ⟨rfl, hb1⟩
      have hkr := kn_range (vat v k)
      have hku := kn_range (vat u k)
      have r0 := (hb1.block w.heap.size (by omega)).trans g0
      have r1 := (hb1.block (w.heap.size + 1) (by omega)).trans g1
      have rB := below_then hb hb.size hb1
      clear g0 g1 hb hb1
      rw [know_add]
      go_wp2
      go_loopw [5, 7] (fun x n wr => x = .slice none 0 0 ∧ n = .int .i64 (kn (vat v k) + 1) ∧ Below w.heap.size w wr ∧ wr.heap[w.heap.size]? = some (.cells (vcells v) 24 (0, 0)) ∧ wr.heap[w.heap.size + 1]? = some (.cells (vcells u) 24 (0, 0))) (fun _ _ _ => 0)
      case atStart => exact ⟨rfl, by go_num, rB, r0, r1⟩
      case round =>
        clear r0 r1 rB hs0
        rename_i wr
        obtain ⟨rfl, rfl, hb, g0, g1⟩ := hrel
        have hs0 : w.heap.size + 1 < wr.heap.size := (Array.getElem?_eq_some_iff.1 g1).1
        go_wp2_with (refine wpList_load_row' rfl 24 (.tmp 3) rfl _ rfl 24 _ (0, 0) _ g1 Try.underlying24 rfl hj ?_)
        refine (known_any _ _ _ hu (by omega) (by omega)).mono ?_
        rintro e w3 ⟨rfl, hb3⟩
        have t0 := (hb3.block w.heap.size (by omega)).trans g0
        have t1 := (hb3.block (w.heap.size + 1) (by omega)).trans g1
        have tB := below_then hb hb.size hb3
        clear g0 g1 hb hb3
        rw [know_add]
        have hlek := hle k hlt
        have htest : ¬ (kn (vat v k) + 1 ≤ kn (vat u k)) := by omega
        go_wp2
        go_roundw
        case rel => exact ⟨k + 1, by omega, rfl, by go_num, tB, t0, t1⟩
        case measure => simp [intOf]; omega
    · obtain rfl : k = 64 := by omega
      go_wp2
      go_ret
      exact ⟨rfl, hb⟩
theorem mem_swap {α : Type} {a b c d e f g p : α} (h : p ∈ [a, b, c, d, e] ++ [f]) : p ∈ [a, b, c, d] ++ e :: [f, g] := by
  simp only [List.mem_append, List.mem_cons, List.not_mem_nil, or_false] at h ⊢
  grind
theorem wrap_next {m L : Nat} (h : m < L) (hl : L ≤ 3840) : Value.int .i64 (wrap64 ((m : Int) + 1)) = Value.int .i64 ((m + 1 : Nat) : Int) := by
  rw [IntWalk.wrap64_in _ (by omega)]; rfl
theorem nearer {m L : Nat} (h : m < L) (hl : L ≤ 3840) : 3841 - (intOf (Value.int .i64 (wrap64 ((m : Int) + 1)))).toNat < 3841 - (intOf (Value.int .i64 (m : Int))).toNat := by
  rw [wrap_next h hl]; simp only [intOf]; omega
theorem build_vec (W : World) : (Instr.build 24 #[]).run Try.prog W = .ok (.agg (vcells Z64)) W := by kernel_rfl
end Go.Proofs.Ytlmligchjjgcmaa
