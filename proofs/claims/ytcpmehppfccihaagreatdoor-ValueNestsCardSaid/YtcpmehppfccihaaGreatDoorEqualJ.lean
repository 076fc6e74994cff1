/-
  value.Equal tells what is written here, for all trees. No condition.
-/
import Derived.Test.YtcpmehppfccihaaGreatDoorSameNJ
import Derived.Test.YtcpmehppfccihaaGreatDoorDecCJ
namespace Go.Proofs.YtcpmehppfccihaaGreatDoor
open Go.RowKit
set_option linter.unusedVariables false
set_option linter.unusedSimpArgs false
/-- Two texts say the same number. -/
def eqv (x y : ByteArray) : Bool := cmpN x.data.toList y.data.toList == 0
def equalV (a b : VT) : Bool := sameB eqv a b
theorem eqf_any (x y : ByteArray) (w : World) : Calls Tryz.prog 48 #[.string x, .string y] w fun e w' => e = .returned (.bool (eqv x y)) ∧ Below w.heap.size w w' := by
  have H := Lib.hid (fun W => cmp_any x y W)
  unfold eqv
  generalize cmpN x.data.toList y.data.toList = n at *
  go_enter Tryz.func48, Tryz.ntmps48
  go_wp2_with (first | go_skip | (go_at_call 49; with_reducible (refine (H.out _).mono ?_); rintro e wn ⟨rfl, hbn⟩))
  go_ret
  exact ⟨rfl, hbn⟩
theorem equal_v (a : VT) : SameOk eqv 48 (fun _ => True) a := by
  have hnum : ∀ (x y : ByteArray) (W : World), True → x.size ≤ 9223372036854775807 → y.size ≤ 9223372036854775807 → Calls Tryz.prog 48 #[.string x, .string y] W fun e w' => e = .returned (.bool (eqv x y)) ∧ Below W.heap.size W w' := fun x y W _ _ _ => eqf_any x y W
  have key : ∀ a : VT, (∀ i, i < a.ln → SameOk eqv 48 (fun _ => True) (a.lt i)) → (∀ i, i < a.mn → SameOk eqv 48 (fun _ => True) (a.mt i)) → SameOk eqv 48 (fun _ => True) a := by
    intro a ihl ihm b w hw ha hb
    cases h : (a.k == b.k && a.n == b.n && a.ln == b.ln && a.mn == b.mn)
    · exact same_no eqv 48 Tryz.f48 Tryz.func48 (by kernel_rfl) (by kernel_rfl) (fun _ => True) (fun _ _ _ _ => trivial) hnum a b w h
    cases hs : (a.s.toList == b.s.toList)
    · cases h5 : (a.k == 3)
      · exact same_txt eqv 48 Tryz.f48 Tryz.func48 (by kernel_rfl) (by kernel_rfl) (fun _ => True) (fun _ _ _ _ => trivial) hnum a b w hw ha hb h hs (by rw [h5]; rfl)
      cases h6 : eqv a.s b.s
      · exact same_txt eqv 48 Tryz.f48 Tryz.func48 (by kernel_rfl) (by kernel_rfl) (fun _ => True) (fun _ _ _ _ => trivial) hnum a b w hw ha hb h hs (by rw [h5, h6]; rfl)
      · exact same_gn eqv 48 Tryz.f48 Tryz.func48 (by kernel_rfl) (by kernel_rfl) (fun _ => True) (fun _ _ _ _ => trivial) hnum a b w hw ha hb ihl ihm h hs h5 h6
    · exact same_go eqv 48 Tryz.f48 Tryz.func48 (by kernel_rfl) (by kernel_rfl) (fun _ => True) (fun _ _ _ _ => trivial) hnum a b w hw ha hb ihl ihm h hs
  induction a with
  | no => exact key .no (fun i hi => absurd hi (Nat.not_lt_zero i)) (fun i hi => absurd hi (Nat.not_lt_zero i))
  | mk k n s lA lb lo ln lc lt mA mb mo mn mc ky mt ihl ihm => exact key _ (fun i _ => ihl i) (fun i _ => ihm i)
set_option maxHeartbeats 1000000 in
theorem vEqual_any (a b : VT) (w : World) (ha : VT.In w.heap.size w a) (hb : VT.In w.heap.size w b) : Calls Tryz.prog 15 #[.agg a.c, .agg b.c] w fun e w' => e = .returned (.bool (equalV a b)) ∧ Below w.heap.size w w' := by
  have H := Lib.hid (fun (W : World) (hW : Below w.heap.size w W) => equal_v a b W trivial ((ha.move hW).up hW.size) ((hb.move hW).up hW.size))
  have hS0 : Sees w ((w.alloc (Obj.cells a.c 27)).alloc (Obj.cells b.c 27)) [(w.heap.size, Obj.cells a.c 27), (w.heap.size + 1, Obj.cells b.c 27)] := by
    have := ((Sees.start w).alloc (Obj.cells a.c 27)).alloc (Obj.cells b.c 27)
    simpa using this
  clear ha hb
  go_enter Tryz.func15, Tryz.ntmps15
  go_wp2_with (first | go_skip | (refine wpList_load_row' rfl 27 (.tmp 2) rfl _ rfl 27 _ (0, 0) _ hS0.g0 Tryz.underlying27 rfl (VT.val_info _) ?_) | (refine wpList_load_row' rfl 27 (.tmp 3) rfl _ rfl 27 _ (0, 0) _ hS0.g1 Tryz.underlying27 rfl (VT.val_info _) ?_) | (go_at_call 47; with_reducible (refine (H.out _ hS0.below).mono ?_); rintro e w1 ⟨rfl, hb1⟩))
  go_ret
  exact ⟨ret_bool rfl, (hS0.step hb1).below⟩
end Go.Proofs.YtcpmehppfccihaaGreatDoor
