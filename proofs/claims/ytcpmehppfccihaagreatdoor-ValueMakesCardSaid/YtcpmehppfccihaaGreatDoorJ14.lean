/-
  What value.Map sorts by, exactly. No condition.
  slices.insertionSortCmpFunc at pairs: laid. No condition.
  slices.SortStableFunc at few pairs. No condition.
  A row of pairs, ahead of and behind the sort. No condition.
  value.Map's sort of a cloned row of at most 20 pairs. No condition.
  How strings are compared, in plain Lean; the sort of pairs keeps their number. No condition.
-/
import Derived.Test.YtcpmehppfccihaaGreatDoorJ9
import Derived.Test.YtcpmehppfccihaaGreatDoorShelfJ
import Derived.Sort.Grow
import Derived.Shelf.SlSortCmp.InsertionK
import Derived.Test.YtcpmehppfccihaaGreatDoorJ15
import Derived.Sort.LotA
namespace Go.Proofs.YtcpmehppfccihaaGreatDoor
open Go.RowKit
set_option linter.unusedVariables false
set_option linter.unusedSimpArgs false
set_option linter.unusedSectionVars false
theorem mapf_any (k1 k2 : ByteArray) (x y : VT) (w : World) : Calls Tryz.prog 43 #[.agg (pcK k1 x), .agg (pcK k2 y)] w fun e w' => e = .returned (.int .i64 (Lib.compareBytes k1.data.toList k2.data.toList)) ∧ w' = (w.alloc (Obj.cells (pcK k1 x) 34)).alloc (Obj.cells (pcK k2 y) 34) := by
  have hs : (w.alloc (Obj.cells (pcK k1 x) 34)).heap.size = w.heap.size + 1 := Array.size_push ..
  have c1 : ((w.alloc (Obj.cells (pcK k1 x) 34)).alloc (Obj.cells (pcK k2 y) 34)).cell? ⟨w.heap.size, 0, none⟩ = some (.string k1) := cell_of_row _ _ 0 _ _ _ ((heap_alloc_old _ _ (by omega)).trans (heap_alloc_new _ _))
  have c2 : ((w.alloc (Obj.cells (pcK k1 x) 34)).alloc (Obj.cells (pcK k2 y) 34)).cell? ⟨w.heap.size + 1, 0, none⟩ = some (.string k2) := by
    have := heap_alloc_new (w.alloc (Obj.cells (pcK k1 x) 34)) (Obj.cells (pcK k2 y) 34)
    rw [hs] at this
    exact cell_of_row _ _ 0 _ _ _ this
  have HK := Lib.hid (fun W => Tryz.strings_Compare k1 k2 W)
  go_enter Tryz.func43, Tryz.ntmps43
  go_wp2_with (first | go_skip | (go_at_call 44; with_reducible (refine (HK.out _).mono ?_); rintro e wn ⟨rfl, rfl⟩))
  go_ret
  exact ⟨rfl, rfl⟩
end Go.Proofs.YtcpmehppfccihaaGreatDoor
namespace Go.Proofs.YtcpmehppfccihaaGreatDoor
open Go.RowKit
set_option linter.unusedVariables false
set_option linter.unusedSimpArgs false
set_option linter.unusedSectionVars false
def sortI_ren : Go.Shelf.Ren := ⟨fun | 20 => 87 | n => n, fun | 0 => 0 | 3 => 3 | 4 => 4 | 22 => 25 | 24 => 34 | 25 => 62 | n => n, fun | n => n⟩
theorem sortI_lays : SlLaysF0.n20 Tryz.prog sortI_ren := {
  mixed := by kernel_rfl
  f20 := ⟨Tryz.f87.name, by kernel_rfl, Tryz.func87.trans (congrArg some (by kernel_rfl))⟩
  t0 := by kernel_rfl
  a0 := fun w => by kernel_rfl
  z0 := fun w => by kernel_rfl
  v0 := fun w => by kernel_rfl
  t3 := by kernel_rfl
  a3 := fun w => by kernel_rfl
  z3 := fun w => by kernel_rfl
  v3 := fun w => by kernel_rfl
  t4 := by kernel_rfl
  a4 := fun w => by kernel_rfl
  z4 := fun w => by kernel_rfl
  v4 := fun w => by kernel_rfl
  t22 := by kernel_rfl
  a22 := fun w => by kernel_rfl
  z22 := fun w => by kernel_rfl
  v22 := fun w => by kernel_rfl
  t25 := by kernel_rfl
  a25 := fun w => by kernel_rfl
  z25 := fun w => by kernel_rfl
  v25 := fun w => by kernel_rfl }
abbrev PK := ByteArray × VT
instance : Inhabited PK := ⟨(⟨#[]⟩, .no)⟩
def encP (p : PK) : List Value := (pcK p.1 p.2).toList
def cfP (p q : PK) : Int := Lib.compareBytes p.1.data.toList q.1.data.toList
theorem cmpP_lays (blk off size : Nat) (w : World) : CmpLays Tryz.prog 43 #[] encP 6 cfP blk off size w := by
  intro m os dk hd x y
  refine (mapf_any x.1 y.1 x.2 y.2 _).mono ?_
  rintro e w' ⟨he, rfl⟩
  refine ⟨he, 0, #[Obj.cells (pcK x.1 x.2) 34, Obj.cells (pcK y.1 y.2) 34], ?_⟩
  generalize sortWorldK encP 6 w blk off m dk os = W
  rw [Sort.alloc_eq_grow, Sort.alloc_eq_grow, Sort.grow_grow]
  rfl
theorem insP_any (blk off cap a b : Nat) (d : Array PK) (w : World) (hH : Sort.HoldsK encP 6 w blk off d) (hblk : blk < w.heap.size) (hab : a ≤ b) (hb : b ≤ d.size) (hsz : d.size < 4611686018427387904) :
    Calls Tryz.prog 87 #[.slice (some ⟨blk, off, none⟩) d.size cap, .int .i64 a, .int .i64 b, .func (.func 43) #[] #[]] w fun e w' =>
      e = .returned (.tuple #[]) ∧ ∃ n os, w' = sortWorldK encP 6 w blk off n (Sort.insertionSort (ltOf cfP) d a b) os :=
  AnyQ.insertionSortCmpFunc sortI_lays 6 (fun w => by kernel_rfl) (fun w => by kernel_rfl) encP (fun x => rfl) (fun x => all_mem (by simp [pcK, VT.L, VT.M, Value.oneCell'])) cfP 43 #[] blk off cap a b d w
    (fun args w => by kernel_rfl) (cmpP_lays blk off d.size w) hH hblk hab hb hsz
end Go.Proofs.YtcpmehppfccihaaGreatDoor
namespace Go.Proofs.YtcpmehppfccihaaGreatDoor
open Go.RowKit
set_option linter.unusedVariables false
set_option linter.unusedSimpArgs false
set_option linter.unusedSectionVars false
def Sorted1 (blk off : Nat) (d : Array PK) (w : World) (e : Ending) (w' : World) : Prop := e = .returned (.tuple #[]) ∧ ∃ n os, w' = sortWorldK encP 6 w blk off n (Sort.insertionSort (ltOf cfP) d 0 d.size) os
set_option maxRecDepth 100000 in
set_option maxHeartbeats 1000000 in
theorem stable_lt (blk off cap : Nat) (d : Array PK) (w : World) (hH : Sort.HoldsK encP 6 w blk off d) (hblk : blk < w.heap.size) (hn : d.size < 20) :
    Calls Tryz.prog 65 #[.slice (some ⟨blk, off, none⟩) d.size cap, .int .i64 d.size, .func (.func 43) #[] #[]] w (Sorted1 blk off d w) := by
  have h0 : Calls Tryz.prog 87 #[.slice (some ⟨blk, off, none⟩) d.size cap, .int .i64 0, .int .i64 d.size, .func (.func 43) #[] #[]] w fun e w' =>
      e = .returned (.tuple #[]) ∧ ∃ n os, w' = sortWorldK encP 6 w blk off n (Sort.insertionSort (ltOf cfP) d 0 d.size) os := insP_any blk off cap 0 d.size d w hH hblk (Nat.zero_le _) (Nat.le_refl _) (by omega)
  have HK := Lib.hid h0
  unfold Sorted1
  have HP := Lib.hid (Eq.refl (Sort.insertionSort (ltOf cfP) d 0 d.size))
  generalize Sort.insertionSort (ltOf cfP) d 0 d.size = d' at HK ⊢
  clear h0 hH HP
  have q1 : decide ((20 : Int) ≤ (d.size : Int)) = false := by simp; omega
  have q2 : decide ((20 : Int) < (d.size : Int)) = false := by simp; omega
  go_enter Tryz.func65, Tryz.ntmps65
  go_wp2_with go_skip
  go_loopw [7, 8] (fun va vb wr => va = .int .i64 0 ∧ vb = .int .i64 20 ∧ w = wr) (fun _ _ _ => 0)
  case atStart => exact ⟨rfl, rfl, rfl⟩
  case round =>
    obtain ⟨rfl, rfl, rfl⟩ := hrel
    go_wp2_with (first | go_skip | (go_at_call 87; with_reducible (refine HK.out.mono ?_); rintro e wn ⟨rfl, n0, os0, rfl⟩))
    go_loopw [6] (fun va wr => va = .int .i64 20 ∧ sortWorldK encP 6 w blk off n0 d' os0 = wr) (fun _ _ => 0)
    case atStart => exact ⟨rfl, rfl⟩
    case round =>
      obtain ⟨rfl, rfl⟩ := hrel
      go_wp2_with go_skip
      go_end0
      exact ⟨rfl, n0, os0, rfl⟩
/-- From place 20 on there is nothing. -/
theorem ins_20 (A : Option Addr) (n c : Nat) (f : Value) (w : World) : Calls Tryz.prog 87 #[.slice A n c, .int .i64 20, .int .i64 20, f] w fun e w' => e = .returned (.tuple #[]) ∧ w' = w := by
  go_enter Tryz.func87, Tryz.ntmps87
  go_wp2_with go_skip
  go_loopw [8] (fun va wr => va = .int .i64 21 ∧ w = wr) (fun _ _ => 0)
  case atStart => exact ⟨rfl, rfl⟩
  case round =>
    obtain ⟨rfl, rfl⟩ := hrel
    go_wp2_with go_skip
    go_end0
    exact ⟨rfl, rfl⟩
set_option maxRecDepth 100000 in
set_option maxHeartbeats 1000000 in
theorem stable_eq (blk off cap : Nat) (d : Array PK) (w : World) (hH : Sort.HoldsK encP 6 w blk off d) (hblk : blk < w.heap.size) (hn : d.size = 20) :
    Calls Tryz.prog 65 #[.slice (some ⟨blk, off, none⟩) 20 cap, .int .i64 20, .func (.func 43) #[] #[]] w (Sorted1 blk off d w) := by
  have h0 : Calls Tryz.prog 87 #[.slice (some ⟨blk, off, none⟩) d.size cap, .int .i64 0, .int .i64 d.size, .func (.func 43) #[] #[]] w fun e w' =>
      e = .returned (.tuple #[]) ∧ ∃ n os, w' = sortWorldK encP 6 w blk off n (Sort.insertionSort (ltOf cfP) d 0 d.size) os := insP_any blk off cap 0 d.size d w hH hblk (Nat.zero_le _) (Nat.le_refl _) (by omega)
  unfold Sorted1
  generalize Sort.insertionSort (ltOf cfP) d 0 d.size = d' at h0 ⊢
  rw [hn] at h0
  have h1 : Calls Tryz.prog 87 #[.slice (some ⟨blk, off, none⟩) 20 cap, .int .i64 0, .int .i64 20, .func (.func 43) #[] #[]] w fun e w' =>
      e = .returned (.tuple #[]) ∧ ∃ n os, w' = sortWorldK encP 6 w blk off n d' os := h0
  have HK := Lib.hid h1
  have H2 := Lib.hid (fun w => ins_20 (some ⟨blk, off, none⟩) 20 cap (.func (.func 43) #[] #[]) w)
  clear h0 h1 hH hn hblk
  go_enter Tryz.func65, Tryz.ntmps65
  go_wp2_with go_skip
  go_loopw [7, 8] (fun va vb wr => (va = .int .i64 0 ∧ vb = .int .i64 20 ∧ w = wr) ∨ (va = .int .i64 20 ∧ vb = .int .i64 40 ∧ ∃ n os, sortWorldK encP 6 w blk off n d' os = wr)) (fun va _ _ => (20 - intOf va).toNat)
  case atStart => exact .inl ⟨rfl, rfl, rfl⟩
  case round =>
    rcases hrel with ⟨rfl, rfl, rfl⟩ | ⟨rfl, rfl, n0, os0, rfl⟩
    · go_wp2_with (first | go_skip | (go_at_call 87; with_reducible (refine HK.out.mono ?_); rintro e wn ⟨rfl, n0, os0, rfl⟩))
      go_roundw
      case rel => exact .inr ⟨rfl, rfl, _, _, rfl⟩
      case measure => simp [intOf]
    · go_wp2_with (first | go_skip | (go_at_call 87; with_reducible (refine (H2.out _).mono ?_); rintro e wn ⟨rfl, rfl⟩))
      go_loopw [6] (fun va wr => va = .int .i64 20 ∧ sortWorldK encP 6 w blk off n0 d' os0 = wr) (fun _ _ => 0)
      case atStart => exact ⟨rfl, rfl⟩
      case round =>
        obtain ⟨rfl, rfl⟩ := hrel
        go_wp2_with go_skip
        go_end0
        exact ⟨rfl, n0, os0, rfl⟩
theorem stable_small (blk off cap : Nat) (d : Array PK) (w : World) (hH : Sort.HoldsK encP 6 w blk off d) (hblk : blk < w.heap.size) (hn : d.size ≤ 20) :
    Calls Tryz.prog 65 #[.slice (some ⟨blk, off, none⟩) d.size cap, .int .i64 d.size, .func (.func 43) #[] #[]] w (Sorted1 blk off d w) := by
  rcases Nat.lt_or_ge d.size 20 with h | h
  · exact stable_lt blk off cap d w hH hblk h
  · have h20 : d.size = 20 := by omega
    have := stable_eq blk off cap d w hH hblk h20
    rw [h20]
    exact this
set_option maxRecDepth 100000 in
theorem sortS_small (blk off cap : Nat) (d : Array PK) (w : World) (hH : Sort.HoldsK encP 6 w blk off d) (hblk : blk < w.heap.size) (hn : d.size ≤ 20) :
    Calls Tryz.prog 42 #[.slice (some ⟨blk, off, none⟩) d.size cap, .func (.func 43) #[] #[]] w (Sorted1 blk off d w) := by
  have HK := Lib.hid (stable_small blk off cap d w hH hblk hn)
  unfold Sorted1 at *
  generalize Sort.insertionSort (ltOf cfP) d 0 d.size = d' at HK ⊢
  go_enter Tryz.func42, Tryz.ntmps42
  go_wp2_with (first | go_skip | (go_at_call 65; with_reducible (refine HK.out.mono ?_); rintro e wn ⟨rfl, n0, os0, rfl⟩))
  go_end0
  exact ⟨rfl, n0, os0, rfl⟩
end Go.Proofs.YtcpmehppfccihaaGreatDoor
namespace Go.Proofs.YtcpmehppfccihaaGreatDoor
open Go.RowKit
set_option linter.unusedVariables false
set_option linter.unusedSimpArgs false
set_option linter.unusedSectionVars false
/-- The row's cells, pair by pair. -/
def RowP (d : Array PK) (cur : Array Value) : Prop := ∀ i, i < d.size → ∀ (q : Nat) u, (pcK d[i]!.1 d[i]!.2)[q]? = some u → cur[i * 6 + q]? = some u
theorem flat_cell (d : Array PK) (j : Nat) (hj : j < d.size * 6) : (pcK d[j / 6]!.1 d[j / 6]!.2)[j % 6]? = some (Sort.flatK encP 6 d)[j]! := by
  rw [Sort.get_flatK _ _ _ _ hj]
  have h6 : j % 6 < (encP d[j / 6]!).length := Nat.mod_lt _ (by decide)
  rw [← Array.getElem?_toList]
  show (encP d[j / 6]!)[j % 6]? = _
  rw [List.getElem?_eq_getElem h6]
  exact congrArg some (getElem!_pos (encP d[j / 6]!) (j % 6) h6).symm
theorem holdsP {W : World} {g : Nat} {cur : Array Value} {T : TypeId} {d : Array PK} (hg : W.heap[g]? = some (.cells cur T (0, 0))) (h : RowP d cur) : Sort.HoldsK encP 6 W g 0 d := by
  intro j hj
  rw [Sort.size_flatK] at hj
  rw [Nat.zero_add]
  refine ⟨?_, frozen_of_row W g j cur T hg⟩
  rw [cell_of_row W g j cur T (0, 0) hg]
  have := h (j / 6) (by omega) (j % 6) _ (flat_cell d j hj)
  rwa [show j / 6 * 6 + j % 6 = j by omega] at this
theorem sorted_row {w : World} {g n : Nat} {os : Array Obj} {cur : Array Value} {T : TypeId} (d : Array PK) (hg : w.heap[g]? = some (.cells cur T (0, 0))) (hc : d.size * 6 ≤ cur.size) :
    ∃ cur', (sortWorldK encP 6 w g 0 n d os).heap[g]? = some (.cells cur' T (0, 0)) ∧ cur'.size = cur.size ∧ RowP d cur' := by
  have hl : g < w.heap.size := (Array.getElem?_eq_some_iff.1 hg).1
  refine ⟨Sort.putCells id 0 (Sort.flatK encP 6 d) cur, ?_, by simp [Sort.putCells], ?_⟩
  · unfold sortWorldK
    rw [Sort.heap_grow_old _ _ (by simpa [Sort.putRowK] using hl)]
    simp [Sort.putRowK, Sort.putRow, Sort.mapBlock, Sort.ahead, Array.getElem?_modify, hg, Sort.onCells]
  · intro i hi q u hu
    have hq : q < 6 := (Array.getElem?_eq_some_iff.1 hu).1
    have hj : i * 6 + q < d.size * 6 := by omega
    have hf := flat_cell d (i * 6 + q) hj
    rw [show (i * 6 + q) / 6 = i by omega, show (i * 6 + q) % 6 = q by omega, hu] at hf
    have hlt : i * 6 + q < cur.size := by omega
    rw [Option.some.inj hf]
    simp [Sort.putCells, hlt, hj]
theorem sorted_else {w : World} {g n : Nat} {os : Array Obj} (d : Array PK) {k : Nat} (hk : k < w.heap.size) (hg : k ≠ g) : (sortWorldK encP 6 w g 0 n d os).heap[k]? = w.heap[k]? := by
  unfold sortWorldK
  rw [Sort.heap_grow_old _ _ (by simpa [Sort.putRowK] using hk)]
  have : g ≠ k := Ne.symm hg
  simp [Sort.putRowK, Sort.putRow, Sort.mapBlock, Sort.ahead, Array.getElem?_modify, this]
theorem sorted_below {w : World} {g n : Nat} {os : Array Obj} (d : Array PK) (hg : g < w.heap.size) : Below g w (sortWorldK encP 6 w g 0 n d os) :=
  ⟨rfl, rfl, rfl, size_sortWorldK_c encP 6 w g 0 n d os, fun k hk => sorted_else d (by omega) (by omega)⟩
end Go.Proofs.YtcpmehppfccihaaGreatDoor
namespace Go.Proofs.YtcpmehppfccihaaGreatDoor
open Go.RowKit
set_option linter.unusedVariables false
set_option linter.unusedSimpArgs false
set_option linter.unusedSectionVars false
theorem ins_nil (A : Option Addr) (c : Nat) (f : Value) (w : World) : Calls Tryz.prog 87 #[.slice A 0 c, .int .i64 0, .int .i64 0, f] w fun e w' => e = .returned (.tuple #[]) ∧ w' = w := by
  go_enter Tryz.func87, Tryz.ntmps87
  go_wp2_with go_skip
  go_loopw [8] (fun va wr => va = .int .i64 1 ∧ w = wr) (fun _ _ => 0)
  case atStart => exact ⟨rfl, rfl⟩
  case round =>
    obtain ⟨rfl, rfl⟩ := hrel
    go_wp2_with go_skip
    go_end0
    exact ⟨rfl, rfl⟩
set_option maxRecDepth 100000 in
theorem stable_nil (A : Option Addr) (c : Nat) (w : World) : Calls Tryz.prog 65 #[.slice A 0 c, .int .i64 0, .func (.func 43) #[] #[]] w fun e w' => e = .returned (.tuple #[]) ∧ w' = w := by
  have HK := Lib.hid (ins_nil A c (.func (.func 43) #[] #[]) w)
  go_enter Tryz.func65, Tryz.ntmps65
  go_wp2_with go_skip
  go_loopw [7, 8] (fun va vb wr => va = .int .i64 0 ∧ vb = .int .i64 20 ∧ w = wr) (fun _ _ _ => 0)
  case atStart => exact ⟨rfl, rfl, rfl⟩
  case round =>
    obtain ⟨rfl, rfl, rfl⟩ := hrel
    go_wp2_with (first | go_skip | (go_at_call 87; with_reducible (refine HK.out.mono ?_); rintro e wn ⟨rfl, rfl⟩))
    rename World => w2
    go_loopw [6] (fun va wr => va = .int .i64 20 ∧ w2 = wr) (fun _ _ => 0)
    case atStart => exact ⟨rfl, rfl⟩
    case round =>
      obtain ⟨rfl, rfl⟩ := hrel
      go_wp2_with go_skip
      go_end0
      exact ⟨rfl, rfl⟩
theorem sortS_nil (A : Option Addr) (c : Nat) (w : World) : Calls Tryz.prog 42 #[.slice A 0 c, .func (.func 43) #[] #[]] w fun e w' => e = .returned (.tuple #[]) ∧ w' = w := by
  have HK := Lib.hid (stable_nil A c w)
  go_enter Tryz.func42, Tryz.ntmps42
  go_wp2_with (first | go_skip | (go_at_call 65; with_reducible (refine HK.out.mono ?_); rintro e wn ⟨rfl, rfl⟩))
  go_end0
  exact ⟨rfl, rfl⟩
/-- These pairs, in a row. -/
def pairsA (n : Nat) (key : Nat → ByteArray) (mt : Nat → VT) : Array PK := Array.ofFn (n := n) fun i => (key i, mt i)
theorem pairsA_size (n : Nat) (key : Nat → ByteArray) (mt : Nat → VT) : (pairsA n key mt).size = n := Array.size_ofFn
theorem pairsA_get {n i : Nat} (key : Nat → ByteArray) (mt : Nat → VT) (hi : i < n) : (pairsA n key mt)[i]! = (key i, mt i) := by
  rw [getElem!_pos _ i (by rw [pairsA_size]; exact hi)]
  simp [pairsA]
def sortA (n : Nat) (key : Nat → ByteArray) (mt : Nat → VT) : Array PK := Sort.insertionSort (ltOf cfP) (pairsA n key mt) 0 n
theorem sortS_cl {W : World} {B n : Nat} {key : Nat → ByteArray} {mt : Nat → VT} {v : Value} (h : Cl 34 6 B n (fun i => pcK (key i) (mt i)) v W) (hn : n ≤ 20) (hz : (sortA n key mt).size = n) :
    Calls Tryz.prog 42 #[v, .func (.func 43) #[] #[]] W fun e w' => e = .returned (.tuple #[]) ∧ Below B W w' ∧ Cl 34 6 B n (fun i => pcK (sortA n key mt)[i]!.1 (sortA n key mt)[i]!.2) v w' := by
  obtain ⟨A, g, cap, cur, rfl, h⟩ := h
  rcases Nat.eq_zero_or_pos n with rfl | hp
  · refine (sortS_nil A cap W).mono ?_
    rintro e w' ⟨rfl, rfl⟩
    exact ⟨rfl, Below.refl _ _, A, g, cap, cur, rfl, fun h => absurd h (Nat.lt_irrefl 0)⟩
  · obtain ⟨rfl, hg, hr, hs, hc, hcu⟩ := h hp
    have hlt : g < W.heap.size := (Array.getElem?_eq_some_iff.1 hr).1
    have hrow : RowP (pairsA n key mt) cur := by
      intro i hi q u hu
      rw [pairsA_size] at hi
      rw [pairsA_get key mt hi] at hu
      exact hcu i hi q u hu
    have hH := sortS_small g 0 cap (pairsA n key mt) W (holdsP hr hrow) hlt (by rw [pairsA_size]; exact hn)
    rw [pairsA_size] at hH
    refine hH.mono ?_
    rintro e w' ⟨rfl, m, os, hw⟩
    rw [pairsA_size] at hw
    subst hw
    obtain ⟨cur', h1, h2, h3⟩ := sorted_row (n := m) (os := os) (sortA n key mt) hr (by rw [hz, hs]; exact Nat.mul_le_mul_right 6 hc)
    refine ⟨rfl, (sorted_below _ hlt).mono hg, _, g, cap, cur', rfl, fun _ => ⟨rfl, hg, h1, h2.trans hs, hc, fun i hi q u hu => h3 i (by rw [hz]; exact hi) q u hu⟩⟩
end Go.Proofs.YtcpmehppfccihaaGreatDoor
namespace Go.Proofs.YtcpmehppfccihaaGreatDoor
open Go.RowKit
set_option linter.unusedVariables false
set_option linter.unusedSimpArgs false
set_option linter.unusedSectionVars false
theorem kb_cons (a b : UInt8) (al bl : List UInt8) : Lib.compareBytes (a :: al) (b :: bl) = if a.toNat < b.toNat then -1 else if b.toNat < a.toNat then 1 else Lib.compareBytes al bl := rfl
theorem kb_anti (a b : List UInt8) : Lib.compareBytes b a = -Lib.compareBytes a b := by
  induction a generalizing b with
  | nil => cases b <;> simp [Lib.compareBytes]
  | cons x a ih =>
    cases b with
    | nil => simp [Lib.compareBytes]
    | cons y b =>
      rw [kb_cons, kb_cons]
      (repeat' split) <;> first | omega | exact ih b
theorem kb_zero {a b : List UInt8} (h : Lib.compareBytes a b = 0) : a = b := by
  induction a generalizing b with
  | nil => cases b with
    | nil => rfl
    | cons y b => simp [Lib.compareBytes] at h
  | cons x a ih =>
    cases b with
    | nil => simp [Lib.compareBytes] at h
    | cons y b =>
      rw [kb_cons] at h
      split at h
      · omega
      · split at h
        · omega
        · rw [ih h, UInt8.toNat_inj.1 (show x.toNat = y.toNat by omega)]
theorem kb_self (a : List UInt8) : Lib.compareBytes a a = 0 := by
  induction a with
  | nil => rfl
  | cons x a ih => rw [kb_cons, if_neg (by omega), if_neg (by omega), ih]
theorem kb_trans {a b c : List UInt8} {v : Int} (h1 : Lib.compareBytes a b = v) (h2 : Lib.compareBytes b c = v) : Lib.compareBytes a c = v := by
  induction a generalizing b c with
  | nil =>
    cases b with
    | nil => exact h2
    | cons y b =>
      cases c with
      | nil => simp [Lib.compareBytes] at h1 h2; omega
      | cons z c => simpa [Lib.compareBytes] using h1
  | cons x a ih =>
    cases b with
    | nil =>
      cases c with
      | nil => exact h1
      | cons z c => simp [Lib.compareBytes] at h1 h2; omega
    | cons y b =>
      cases c with
      | nil => simpa [Lib.compareBytes] using h2
      | cons z c =>
        rw [kb_cons] at h1 h2 ⊢
        by_cases e1 : x.toNat < y.toNat
        · rw [if_pos e1] at h1
          by_cases e2 : y.toNat < z.toNat
          · rw [if_pos (by omega)]; exact h1
          · rw [if_neg e2] at h2
            by_cases e3 : z.toNat < y.toNat
            · rw [if_pos e3] at h2; omega
            · rw [if_pos (by omega)]; exact h1
        · rw [if_neg e1] at h1
          by_cases e1' : y.toNat < x.toNat
          · rw [if_pos e1'] at h1
            by_cases e2 : y.toNat < z.toNat
            · rw [if_pos e2] at h2; omega
            · rw [if_neg e2] at h2
              rw [if_neg (by omega), if_pos (by omega)]; exact h1
          · rw [if_neg e1'] at h1
            by_cases e2 : y.toNat < z.toNat
            · rw [if_pos e2] at h2; rw [if_pos (by omega)]; exact h2
            · rw [if_neg e2] at h2
              by_cases e3 : z.toNat < y.toNat
              · rw [if_pos e3] at h2; rw [if_neg (by omega), if_pos (by omega)]; exact h2
              · rw [if_neg e3] at h2
                rw [if_neg (by omega), if_neg (by omega)]
                exact ih h1 h2
def cbP (x y : PK) : Int := Lib.compareBytes x.1.data.toList y.1.data.toList
theorem lt_iff (x y : PK) : ltOf cfP x y = true ↔ cbP x y < 0 := by show decide (cbP x y < 0) = true ↔ _; exact decide_eq_true_iff
theorem ge_iff (x y : PK) : ltOf cfP x y = false ↔ ¬ cbP x y < 0 := by show decide (cbP x y < 0) = false ↔ _; exact decide_eq_false_iff_not
theorem cbP_range (x y : PK) : cbP x y = -1 ∨ cbP x y = 0 ∨ cbP x y = 1 := compareBytes_range _ _
theorem cbP_trans {x y z : PK} {v : Int} (h : cbP x y = v) (k : cbP y z = v) : cbP x z = v := kb_trans h k
theorem cbP_zero {x y : PK} (h : cbP x y = 0) (z : PK) : cbP x z = cbP y z ∧ cbP z x = cbP z y := by
  have := kb_zero h
  unfold cbP
  rw [this]
  exact ⟨rfl, rfl⟩
theorem swoP : Sort.SWO (ltOf cfP) where
  irrefl x := by
    rw [ge_iff]
    have : cbP x x = 0 := kb_self _
    omega
  trans x y z h1 h2 := by
    rw [lt_iff] at *
    have a : cbP x y = -1 := by rcases cbP_range x y with h | h | h <;> omega
    have b : cbP y z = -1 := by rcases cbP_range y z with h | h | h <;> omega
    have := cbP_trans a b
    omega
  ntrans x y z h1 h2 := by
    rw [ge_iff] at *
    rcases cbP_range x y with h | h | h
    · omega
    · rw [(cbP_zero h z).1]; exact h2
    · rcases cbP_range y z with k | k | k
      · omega
      · rw [← (cbP_zero k x).2]; exact h1
      · have := cbP_trans h k
        omega
theorem sortA_all (n : Nat) (key : Nat → ByteArray) (mt : Nat → VT) : Sort.PermIn 0 n (pairsA n key mt) (sortA n key mt) ∧ Sort.SortedIn (ltOf cfP) 0 n (sortA n key mt) :=
  Sort.insertionSort_holds swoP (pairsA n key mt) 0 n (Nat.zero_le _) (by rw [pairsA_size]; exact Nat.le_refl _)
theorem sortA_size (n : Nat) (key : Nat → ByteArray) (mt : Nat → VT) : (sortA n key mt).size = n := (sortA_all n key mt).1.1.trans (pairsA_size n key mt)
end Go.Proofs.YtcpmehppfccihaaGreatDoor
