/-
  value.Same and ops.zero tell what is written here, for all trees. No condition.
-/
import Derived.Test.YtcpmehppfccihaaGreatDoorSameJ
namespace Go.Proofs.YtcpmehppfccihaaGreatDoor
open Go.RowKit
set_option linter.unusedVariables false
set_option linter.unusedSimpArgs false
theorem never_any (x y : ByteArray) (w : World) : Calls Tryz.prog 50 #[.string x, .string y] w fun e w' => e = .returned (.bool (nev x y)) ∧ Below w.heap.size w w' := by
  go_enter Tryz.func50, Tryz.ntmps50
  go_wp2
  go_ret
  exact ⟨rfl, Below.refl _ _⟩
theorem same_v (a : VT) : SameOk nev 50 (fun _ => True) a := by
  have hnum : ∀ (x y : ByteArray) (W : World), True → x.size ≤ 9223372036854775807 → y.size ≤ 9223372036854775807 → Calls Tryz.prog 50 #[.string x, .string y] W fun e w' => e = .returned (.bool (nev x y)) ∧ Below W.heap.size W w' := fun x y W _ _ _ => never_any x y W
  have key : ∀ a : VT, (∀ i, i < a.ln → SameOk nev 50 (fun _ => True) (a.lt i)) → (∀ i, i < a.mn → SameOk nev 50 (fun _ => True) (a.mt i)) → SameOk nev 50 (fun _ => True) a := by
    intro a ihl ihm b w hw ha hb
    cases h : (a.k == b.k && a.n == b.n && a.ln == b.ln && a.mn == b.mn)
    · exact same_no nev 50 Tryz.f50 Tryz.func50 (by kernel_rfl) (by kernel_rfl) (fun _ => True) (fun _ _ _ _ => trivial) hnum a b w h
    cases hs : (a.s.toList == b.s.toList)
    · exact same_txt nev 50 Tryz.f50 Tryz.func50 (by kernel_rfl) (by kernel_rfl) (fun _ => True) (fun _ _ _ _ => trivial) hnum a b w hw ha hb h hs (by simp [nev])
    · exact same_go nev 50 Tryz.f50 Tryz.func50 (by kernel_rfl) (by kernel_rfl) (fun _ => True) (fun _ _ _ _ => trivial) hnum a b w hw ha hb ihl ihm h hs
  induction a with
  | no => exact key .no (fun i hi => absurd hi (Nat.not_lt_zero i)) (fun i hi => absurd hi (Nat.not_lt_zero i))
  | mk k n s lA lb lo ln lc lt mA mb mo mn mc ky mt ihl ihm => exact key _ (fun i _ => ihl i) (fun i _ => ihm i)
set_option maxHeartbeats 1000000 in
theorem vSame_any (a b : VT) (w : World) (ha : VT.In w.heap.size w a) (hb : VT.In w.heap.size w b) : Calls Tryz.prog 16 #[.agg a.c, .agg b.c] w fun e w' => e = .returned (.bool (sameV a b)) ∧ Below w.heap.size w w' := by
  have H := Lib.hid (fun (W : World) (hW : Below w.heap.size w W) => same_v a b W trivial ((ha.move hW).up hW.size) ((hb.move hW).up hW.size))
  have hS0 : Sees w ((w.alloc (Obj.cells a.c 27)).alloc (Obj.cells b.c 27)) [(w.heap.size, Obj.cells a.c 27), (w.heap.size + 1, Obj.cells b.c 27)] := by
    have := ((Sees.start w).alloc (Obj.cells a.c 27)).alloc (Obj.cells b.c 27)
    simpa using this
  clear ha hb
  go_enter Tryz.func16, Tryz.ntmps16
  go_wp2_with (first | go_skip | (refine wpList_load_row' rfl 27 (.tmp 2) rfl _ rfl 27 _ (0, 0) _ hS0.g0 Tryz.underlying27 rfl (VT.val_info _) ?_) | (refine wpList_load_row' rfl 27 (.tmp 3) rfl _ rfl 27 _ (0, 0) _ hS0.g1 Tryz.underlying27 rfl (VT.val_info _) ?_) | (go_at_call 47; with_reducible (refine (H.out _ hS0.below).mono ?_); rintro e w1 ⟨rfl, hb1⟩))
  go_ret
  exact ⟨ret_bool rfl, (hS0.step hb1).below⟩
end Go.Proofs.YtcpmehppfccihaaGreatDoor
