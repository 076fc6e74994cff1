/-
  ClockJoins: the operations of 'x, ok := y.With(..)', in whatever order. No condition.
-/
import Derived.Test.YtlmligchjjgcmaaClkJoin1
import Derived.Test.YtlmligchjjgcmaaGiveOf
namespace Go.Proofs.Ytlmligchjjgcmaa
open Go.RowKit
set_option linter.unusedVariables false
noncomputable def ops13 : Array Oper := regOf Try.f4 13
noncomputable def val13 (y y' : List Int) (g n cap m : Nat) (p : Int × Int) : Nat → Value := fun i => [.agg (vcells y), .slice (some ⟨g, 0, none⟩) n cap, .int .i64 (m : Int), .pointer (some ⟨g, m * 2, none⟩), .agg #[.int .i64 p.1, .int .i64 p.2], .tuple #[.agg (vcells y'), .bool true], .tuple #[.agg (vcells y'), .bool true], .agg (vcells y'), .bool true].getD i undef
set_option maxRecDepth 100000 in
theorem reg13 {ops : Array Oper} (hops : ops = ops13) {Q : Exit → Act → World → Prop} {a0 : Act} {w wr : World} {Rs : List (Nat × Obj)} {y y' : List Int} {b8 g n cap m : Nat} {p : Int × Int} {cur : Array Value} (hz : 90 ≤ a0.tmps.size)
    (h8 : a0.eval (.tmp 8) = .pointer (some ⟨b8, 0, none⟩)) (h9 : a0.eval (.tmp 9) = .slice (some ⟨g, 0, none⟩) n cap) (h10 : a0.eval (.tmp 10) = .int .i64 (m : Int)) (hm : m < n)
    (hS : Sees w wr Rs) (hr8 : (b8, .cells (vcells y) 24 (0, 0)) ∈ Rs) (hrg : (g, .cells cur 27 (0, 0)) ∈ Rs) (hc0 : cur[m * 2]? = some (.int .i64 p.1)) (hc1 : cur[m * 2 + 1]? = some (.int .i64 p.2)) (ly : y.length = 64) (ly' : y'.length = 64)
    (HW : ∀ W, Calls Try.prog 14 #[.agg (vcells y), .agg #[.int .i64 p.1, .int .i64 p.2]] W fun e w' => e = .returned (.tuple #[.agg (vcells y'), .bool true]) ∧ Below W.heap.size W w')
    (hend : ∀ θ wX b, θ 8 = .bool true → θ 9 = .pointer (some ⟨b, 0, none⟩) → (∀ q ∈ Rs, q.1 ≠ b) → Sees w wX (Rs ++ [(b, .cells (vcells y') 24 (0, 0))]) → wpList Try.prog ops Q (ops.toList.drop 11) (seqTo ops θ a0 11) wX) :
    (Code.region 13 ops true).wp Try.prog Q a0 wr := by
  subst hops
  have iy := vec_info y ly
  have iy' := vec_info y' ly'
  have hsz : ∀ t, t < 90 → decide (t < a0.tmps.size) = true := fun t ht => decide_eq_true (by omega)
  refine wp_region_env 11 (by kernel_rfl) (by kernel_rfl) (by kernel_rfl) (of_decide_eq_true (by kernel_rfl)) (by kernel_rfl) (BoxC w Rs (val13 y y' g n cap m p) 9 9 10 24 (vcells Z64) (vcells y')) ⟨fun _ => undef, ?_⟩ ?_ ?_
  · exact ⟨(fun i _ h => by cases h), hS.step (Below.refl _ _).drew, (fun h => by cases h)⟩
  · intro i o hi3 ho θ L wX hC hLi hdep hlat
    have hT := hC.1
    have hX := hC.2.1
    rcases (show i = 0 ∨ i = 1 ∨ i = 2 ∨ i = 3 ∨ i = 4 ∨ i = 5 ∨ i = 6 ∨ i = 7 ∨ i = 8 ∨ i = 9 ∨ i = 10 by omega) with rfl | rfl | rfl | rfl | rfl | rfl | rfl | rfl | rfl | rfl | rfl
    · exact if_want (want_of ho (by kernel_rfl) _) (gives_load_row 24 (.tmp 8) (op_of ho (by kernel_rfl)) b8 (seq_old (by kernel_rfl) h8) 24 _ (0, 0) _ (hX.get _ hr8) Try.underlying24 rfl iy (hC.keep (by decide) (by decide) (fun _ => rfl) (Below.refl _ _)))
    · exact if_want (want_of ho (by kernel_rfl) _) (gives_move (.tmp 9) (op_of ho (by kernel_rfl)) (seq_old (by kernel_rfl) h9) (hC.keep (by decide) (by decide) (fun _ => rfl) (Below.refl _ _)))
    · exact if_want (want_of ho (by kernel_rfl) _) (gives_move (.tmp 10) (op_of ho (by kernel_rfl)) (seq_old (by kernel_rfl) h10) (hC.keep (by decide) (by decide) (fun _ => rfl) (Below.refl _ _)))
    · have e1 : θ 1 = .slice (some ⟨g, 0, none⟩) n cap := hT 1 (by decide) (hdep 1 (by kernel_rfl))
      have e2 : θ 2 = .int .i64 (m : Int) := hT 2 (by decide) (hdep 2 (by kernel_rfl))
      exact if_want (want_of ho (by kernel_rfl) _) (gives_index 32 (.tmp 80) (.tmp 81) (op_of ho (by kernel_rfl)) 27 2 Try.underlying32 id_size g _ cap m (seq_at (by kernel_rfl) (hsz _ (by decide)) e1) (seq_at (by kernel_rfl) (hsz _ (by decide)) e2) hm (hC.keep (by decide) (by decide) (fun _ => rfl) (Below.refl _ _)))
    · have e3 : θ 3 = .pointer (some ⟨g, m * 2, none⟩) := hT 3 (by decide) (hdep 3 (by kernel_rfl))
      exact if_want (want_of ho (by kernel_rfl) _) (gives_load_mid 27 (.tmp 82) (op_of ho (by kernel_rfl)) g (m * 2) (seq_at (by kernel_rfl) (hsz _ (by decide)) e3) 27 cur #[.int .i64 p.1, .int .i64 p.2] (0, 0) _ (hX.get _ hrg) (pair_at hc0 hc1) Try.underlying27 rfl id_size (hC.keep (by decide) (by decide) (fun _ => rfl) (Below.refl _ _)))
    · have e0 : θ 0 = .agg (vcells y) := hT 0 (by decide) (hdep 0 (by kernel_rfl))
      have e4 : θ 4 = .agg #[.int .i64 p.1, .int .i64 p.2] := hT 4 (by decide) (hdep 4 (by kernel_rfl))
      exact if_want (want_of ho (by kernel_rfl) _) (gives_callf #[.tmp 79, .tmp 83] #[24, 27] (op_of ho (by kernel_rfl)) (f := 14) Try.func14 (by kernel_rfl) rfl #[.agg (vcells y), .agg #[.int .i64 p.1, .int .i64 p.2]] (two_args (seq_at (by kernel_rfl) (hsz _ (by decide)) e0) (seq_at (by kernel_rfl) (hsz _ (by decide)) e4)) (HW wX) (fun w' hb => hC.keep (by decide) (by decide) (fun _ => rfl) hb))
    · have e5 : θ 5 = .tuple #[.agg (vcells y'), .bool true] := hT 5 (by decide) (hdep 5 (by kernel_rfl))
      exact if_want (want_of ho (by kernel_rfl) _) (gives_move (.tmp 84) (op_of ho (by kernel_rfl)) (seq_at (by kernel_rfl) (hsz _ (by decide)) e5) (hC.keep (by decide) (by decide) (fun _ => rfl) (Below.refl _ _)))
    · have e6 : θ 6 = .tuple #[.agg (vcells y'), .bool true] := hT 6 (by decide) (hdep 6 (by kernel_rfl))
      exact if_want (want_of ho (by kernel_rfl) _) (gives_extract (.tmp 78) 0 (op_of ho (by kernel_rfl)) _ (.agg (vcells y')) (seq_at (by kernel_rfl) (hsz _ (by decide)) e6) rfl (hC.keep (by decide) (by decide) (fun _ => rfl) (Below.refl _ _)))
    · have e6 : θ 6 = .tuple #[.agg (vcells y'), .bool true] := hT 6 (by decide) (hdep 6 (by kernel_rfl))
      exact if_want (want_of ho (by kernel_rfl) _) (gives_extract (.tmp 78) 1 (op_of ho (by kernel_rfl)) _ (.bool true) (seq_at (by kernel_rfl) (hsz _ (by decide)) e6) rfl (hC.keep (by decide) (by decide) (fun _ => rfl) (Below.refl _ _)))
    · exact if_want (want_of ho (by kernel_rfl) _) (gives_alloc 24 (op_of ho (by kernel_rfl)) (.agg (vcells Z64)) (by kernel_rfl) (hC.alloc (hlat 10 (by kernel_rfl)) (by decide) (by decide)))
    · obtain ⟨b, e9, hr, hfin⟩ := hC.row (hdep 9 (by kernel_rfl)) hLi
      have e7 : θ 7 = .agg (vcells y') := hT 7 (by decide) (hdep 7 (by kernel_rfl))
      exact if_want (want_of ho (by kernel_rfl) _) (gives_store_row 24 (.tmp 11) (.tmp 85) (op_of ho (by kernel_rfl)) b (vcells y') (seq_at (by kernel_rfl) (hsz _ (by decide)) e9) (seq_at (by kernel_rfl) (hsz _ (by decide)) e7) 24 _ hr iy' (by rw [vcells_size, vcells_size, ly']; rfl) (vcells_one _) (fun v' w' hg ho' hb => hfin w' v' (by decide) (by decide) hg ho' hb))
  · intro θ L wX hC hL
    obtain ⟨b11, e9, hqb, hX⟩ := hC.done (by rw [hL]; rfl) (by rw [hL]; rfl)
    exact hend θ wX b11 (hC.1 8 (by decide) (by rw [hL]; rfl)) e9 hqb hX
end Go.Proofs.Ytlmligchjjgcmaa
