/-
  What value.Map sorts by, exactly. No condition.
  slices.insertionSortCmpFunc at pairs: laid. No condition.
  slices.SortStableFunc at few pairs. No condition.
-/
import Derived.Test.YtcpmehppfccihaaGreatDoorCopyIJ
import Derived.Test.YtcpmehppfccihaaGreatDoorShelfJ
import Derived.Sort.Grow
import Derived.Shelf.SlSortCmp.InsertionK
namespace Go.Proofs.YtcpmehppfccihaaGreatDoor
open Go.RowKit
set_option linter.unusedVariables false
set_option linter.unusedSimpArgs false
set_option linter.unusedSectionVars false
theorem mapf_any (k1 k2 : ByteArray) (x y : VT) (w : World) : Calls Tryz.prog 43 #[.agg (pcK k1 x), .agg (pcK k2 y)] w fun e w' => e = .returned (.int .i64 (Lib.compareBytes k1.data.toList k2.data.toList)) ∧ w' = (w.alloc (Obj.cells (pcK k1 x) 34)).alloc (Obj.cells (pcK k2 y) 34) := by
  have hs : (w.alloc (Obj.cells (pcK k1 x) 34)).heap.size = w.heap.size + 1 := Array.size_push ..
  have c1 : ((w.alloc (Obj.cells (pcK k1 x) 34)).alloc (Obj.cells (pcK k2 y) 34)).cell? ⟨w.heap.size, 0, none⟩ = some (.string k1) := cell_of_row _ _ 0 _ _ _ ((heap_alloc_old _ _ (by omega)).trans (heap_alloc_new _ _))
  have c2 : ((w.alloc (Obj.cells (pcK k1 x) 34)).alloc (Obj.cells (pcK k2 y) 34)).cell? ⟨w.heap.size + 1, 0, none⟩ = some (.string k2) := by
    have := heap_alloc_new (w.alloc (Obj.cells (pcK k1 x) 34)) (Obj.cells (pcK k2 y) 34)
    rw [hs] at this
    exact cell_of_row _ _ 0 _ _ _ this
  have HK := Lib.hid (fun W => Tryz.strings_Compare k1 k2 W)
  go_enter Tryz.func43, Tryz.ntmps43
  go_wp2_with (first | go_skip | (go_at_call 44; with_reducible (refine (HK.out _).mono ?_); rintro e wn ⟨rfl, rfl⟩))
  go_ret
  exact ⟨rfl, rfl⟩
end Go.Proofs.YtcpmehppfccihaaGreatDoor
namespace Go.Proofs.YtcpmehppfccihaaGreatDoor
open Go.RowKit
set_option linter.unusedVariables false
set_option linter.unusedSimpArgs false
set_option linter.unusedSectionVars false
def sortI_ren : Go.Shelf.Ren := ⟨fun | 20 => 87 | n => n, fun | 0 => 0 | 3 => 3 | 4 => 4 | 22 => 25 | 24 => 34 | 25 => 62 | n => n, fun | n => n⟩
theorem sortI_lays : SlLaysF0.n20 Tryz.prog sortI_ren := {
  mixed := by kernel_rfl
  f20 := ⟨Tryz.f87.name, by kernel_rfl, Tryz.func87.trans (congrArg some (by kernel_rfl))⟩
  t0 := by kernel_rfl
  a0 := fun w => by kernel_rfl
  z0 := fun w => by kernel_rfl
  v0 := fun w => by kernel_rfl
  t3 := by kernel_rfl
  a3 := fun w => by kernel_rfl
  z3 := fun w => by kernel_rfl
  v3 := fun w => by kernel_rfl
  t4 := by kernel_rfl
  a4 := fun w => by kernel_rfl
  z4 := fun w => by kernel_rfl
  v4 := fun w => by kernel_rfl
  t22 := by kernel_rfl
  a22 := fun w => by kernel_rfl
  z22 := fun w => by kernel_rfl
  v22 := fun w => by kernel_rfl
  t25 := by kernel_rfl
  a25 := fun w => by kernel_rfl
  z25 := fun w => by kernel_rfl
  v25 := fun w => by kernel_rfl }
abbrev PK := ByteArray × VT
instance : Inhabited PK := ⟨(⟨#[]⟩, .no)⟩
def encP (p : PK) : List Value := (pcK p.1 p.2).toList
def cfP (p q : PK) : Int := Lib.compareBytes p.1.data.toList q.1.data.toList
theorem cmpP_lays (blk off size : Nat) (w : World) : CmpLays Tryz.prog 43 #[] encP 6 cfP blk off size w := by
  intro m os dk hd x y
  refine (mapf_any x.1 y.1 x.2 y.2 _).mono ?_
  rintro e w' ⟨he, rfl⟩
  refine ⟨he, 0, #[Obj.cells (pcK x.1 x.2) 34, Obj.cells (pcK y.1 y.2) 34], ?_⟩
  generalize sortWorldK encP 6 w blk off m dk os = W
  rw [Sort.alloc_eq_grow, Sort.alloc_eq_grow, Sort.grow_grow]
  rfl
theorem insP_any (blk off cap a b : Nat) (d : Array PK) (w : World) (hH : Sort.HoldsK encP 6 w blk off d) (hblk : blk < w.heap.size) (hab : a ≤ b) (hb : b ≤ d.size) (hsz : d.size < 4611686018427387904) :
    Calls Tryz.prog 87 #[.slice (some ⟨blk, off, none⟩) d.size cap, .int .i64 a, .int .i64 b, .func (.func 43) #[] #[]] w fun e w' =>
      e = .returned (.tuple #[]) ∧ ∃ n os, w' = sortWorldK encP 6 w blk off n (Sort.insertionSort (ltOf cfP) d a b) os :=
  AnyQ.insertionSortCmpFunc sortI_lays 6 (fun w => by kernel_rfl) (fun w => by kernel_rfl) encP (fun x => rfl) (fun x => all_mem (by simp [pcK, VT.L, VT.M, Value.oneCell'])) cfP 43 #[] blk off cap a b d w
    (fun args w => by kernel_rfl) (cmpP_lays blk off d.size w) hH hblk hab hb hsz
end Go.Proofs.YtcpmehppfccihaaGreatDoor
namespace Go.Proofs.YtcpmehppfccihaaGreatDoor
open Go.RowKit
set_option linter.unusedVariables false
set_option linter.unusedSimpArgs false
set_option linter.unusedSectionVars false
def Sorted1 (blk off : Nat) (d : Array PK) (w : World) (e : Ending) (w' : World) : Prop := e = .returned (.tuple #[]) ∧ ∃ n os, w' = sortWorldK encP 6 w blk off n (Sort.insertionSort (ltOf cfP) d 0 d.size) os
set_option maxRecDepth 100000 in
set_option maxHeartbeats 1000000 in
theorem stable_lt (blk off cap : Nat) (d : Array PK) (w : World) (hH : Sort.HoldsK encP 6 w blk off d) (hblk : blk < w.heap.size) (hn : d.size < 20) :
    Calls Tryz.prog 65 #[.slice (some ⟨blk, off, none⟩) d.size cap, .int .i64 d.size, .func (.func 43) #[] #[]] w (Sorted1 blk off d w) := by
  have h0 : Calls Tryz.prog 87 #[.slice (some ⟨blk, off, none⟩) d.size cap, .int .i64 0, .int .i64 d.size, .func (.func 43) #[] #[]] w fun e w' =>
      e = .returned (.tuple #[]) ∧ ∃ n os, w' = sortWorldK encP 6 w blk off n (Sort.insertionSort (ltOf cfP) d 0 d.size) os := insP_any blk off cap 0 d.size d w hH hblk (Nat.zero_le _) (Nat.le_refl _) (by omega)
  have HK := Lib.hid h0
  unfold Sorted1
  have HP := Lib.hid (Eq.refl (Sort.insertionSort (ltOf cfP) d 0 d.size))
  generalize Sort.insertionSort (ltOf cfP) d 0 d.size = d' at HK ⊢
  clear h0 hH HP
  have q1 : decide ((20 : Int) ≤ (d.size : Int)) = false := by simp; omega
  have q2 : decide ((20 : Int) < (d.size : Int)) = false := by simp; omega
  go_enter Tryz.func65, Tryz.ntmps65
  go_wp2_with go_skip
  go_loopw [7, 8] (fun va vb wr => va = .int .i64 0 ∧ vb = .int .i64 20 ∧ w = wr) (fun _ _ _ => 0)
  case atStart => exact ⟨rfl, rfl, rfl⟩
  case round =>
    obtain ⟨rfl, rfl, rfl⟩ := hrel
    go_wp2_with (first | go_skip | (go_at_call 87; with_reducible (refine HK.out.mono ?_); rintro e wn ⟨rfl, n0, os0, rfl⟩))
    go_loopw [6] (fun va wr => va = .int .i64 20 ∧ sortWorldK encP 6 w blk off n0 d' os0 = wr) (fun _ _ => 0)
    case atStart => exact ⟨rfl, rfl⟩
    case round =>
      obtain ⟨rfl, rfl⟩ := hrel
      go_wp2_with go_skip
      go_end0
      exact ⟨rfl, n0, os0, rfl⟩
/-- From place 20 on there is nothing. -/
theorem ins_20 (A : Option Addr) (n c : Nat) (f : Value) (w : World) : Calls Tryz.prog 87 #[.slice A n c, .int .i64 20, .int .i64 20, f] w fun e w' => e = .returned (.tuple #[]) ∧ w' = w := by
  go_enter Tryz.func87, Tryz.ntmps87
  go_wp2_with go_skip
  go_loopw [8] (fun va wr => va = .int .i64 21 ∧ w = wr) (fun _ _ => 0)
  case atStart => exact ⟨rfl, rfl⟩
  case round =>
    obtain ⟨rfl, rfl⟩ := hrel
    go_wp2_with go_skip
    go_end0
    exact ⟨rfl, rfl⟩
set_option maxRecDepth 100000 in
set_option maxHeartbeats 1000000 in
theorem stable_eq (blk off cap : Nat) (d : Array PK) (w : World) (hH : Sort.HoldsK encP 6 w blk off d) (hblk : blk < w.heap.size) (hn : d.size = 20) :
    Calls Tryz.prog 65 #[.slice (some ⟨blk, off, none⟩) 20 cap, .int .i64 20, .func (.func 43) #[] #[]] w (Sorted1 blk off d w) := by
  have h0 : Calls Tryz.prog 87 #[.slice (some ⟨blk, off, none⟩) d.size cap, .int .i64 0, .int .i64 d.size, .func (.func 43) #[] #[]] w fun e w' =>
      e = .returned (.tuple #[]) ∧ ∃ n os, w' = sortWorldK encP 6 w blk off n (Sort.insertionSort (ltOf cfP) d 0 d.size) os := insP_any blk off cap 0 d.size d w hH hblk (Nat.zero_le _) (Nat.le_refl _) (by omega)
  unfold Sorted1
  generalize Sort.insertionSort (ltOf cfP) d 0 d.size = d' at h0 ⊢
  rw [hn] at h0
  have h1 : Calls Tryz.prog 87 #[.slice (some ⟨blk, off, none⟩) 20 cap, .int .i64 0, .int .i64 20, .func (.func 43) #[] #[]] w fun e w' =>
      e = .returned (.tuple #[]) ∧ ∃ n os, w' = sortWorldK encP 6 w blk off n d' os := h0
  have HK := Lib.hid h1
  have H2 := Lib.hid (fun w => ins_20 (some ⟨blk, off, none⟩) 20 cap (.func (.func 43) #[] #[]) w)
  clear h0 h1 hH hn hblk
  go_enter Tryz.func65, Tryz.ntmps65
  go_wp2_with go_skip
  go_loopw [7, 8] (fun va vb wr => (va = .int .i64 0 ∧ vb = .int .i64 20 ∧ w = wr) ∨ (va = .int .i64 20 ∧ vb = .int .i64 40 ∧ ∃ n os, sortWorldK encP 6 w blk off n d' os = wr)) (fun va _ _ => (20 - intOf va).toNat)
  case atStart => exact .inl ⟨rfl, rfl, rfl⟩
  case round =>
    rcases hrel with ⟨rfl, rfl, rfl⟩ | ⟨rfl, rfl, n0, os0, rfl⟩
    · go_wp2_with (first | go_skip | (go_at_call 87; with_reducible (refine HK.out.mono ?_); rintro e wn ⟨rfl, n0, os0, rfl⟩))
      go_roundw
      case rel => exact .inr ⟨rfl, rfl, _, _, rfl⟩
      case measure => simp [intOf]
    · go_wp2_with (first | go_skip | (go_at_call 87; with_reducible (refine (H2.out _).mono ?_); rintro e wn ⟨rfl, rfl⟩))
      go_loopw [6] (fun va wr => va = .int .i64 20 ∧ sortWorldK encP 6 w blk off n0 d' os0 = wr) (fun _ _ => 0)
      case atStart => exact ⟨rfl, rfl⟩
      case round =>
        obtain ⟨rfl, rfl⟩ := hrel
        go_wp2_with go_skip
        go_end0
        exact ⟨rfl, n0, os0, rfl⟩
theorem stable_small (blk off cap : Nat) (d : Array PK) (w : World) (hH : Sort.HoldsK encP 6 w blk off d) (hblk : blk < w.heap.size) (hn : d.size ≤ 20) :
    Calls Tryz.prog 65 #[.slice (some ⟨blk, off, none⟩) d.size cap, .int .i64 d.size, .func (.func 43) #[] #[]] w (Sorted1 blk off d w) := by
  rcases Nat.lt_or_ge d.size 20 with h | h
  · exact stable_lt blk off cap d w hH hblk h
  · have h20 : d.size = 20 := by omega
    have := stable_eq blk off cap d w hH hblk h20
    rw [h20]
    exact this
set_option maxRecDepth 100000 in
theorem sortS_small (blk off cap : Nat) (d : Array PK) (w : World) (hH : Sort.HoldsK encP 6 w blk off d) (hblk : blk < w.heap.size) (hn : d.size ≤ 20) :
    Calls Tryz.prog 42 #[.slice (some ⟨blk, off, none⟩) d.size cap, .func (.func 43) #[] #[]] w (Sorted1 blk off d w) := by
  have HK := Lib.hid (stable_small blk off cap d w hH hblk hn)
  unfold Sorted1 at *
  generalize Sort.insertionSort (ltOf cfP) d 0 d.size = d' at HK ⊢
  go_enter Tryz.func42, Tryz.ntmps42
  go_wp2_with (first | go_skip | (go_at_call 65; with_reducible (refine HK.out.mono ?_); rintro e wn ⟨rfl, n0, os0, rfl⟩))
  go_end0
  exact ⟨rfl, n0, os0, rfl⟩
end Go.Proofs.YtcpmehppfccihaaGreatDoor
