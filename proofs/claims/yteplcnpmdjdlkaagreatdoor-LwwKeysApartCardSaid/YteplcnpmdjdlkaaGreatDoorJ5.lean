/-
  The shelf's contracts at this dump, in plain words. No condition.
  slices.Sorted(maps.Keys(m)) over a map of operations by strings; maps.Clone of it. Condition: each key stands once.
  Maps in which the last word counts, as they lie in memory. No condition.
-/
import Derived.Shelf.SlIter.Nil
import Derived.Shelf.SortM.Plain
import Derived.Shelf.SortM.SortNone
import Derived.Shelf.SlMaps.Clone
import Derived.Ground.GgzProg
import Derived.Ground.SlgmProg
import Derived.Ground.SlmcProg
import Derived.Test.YteplcnpmdjdlkaaGreatDoorProg
import Derived.Test.YteplcnpmdjdlkaaGreatDoorMapKJ
import Derived.Test.YteplcnpmdjdlkaaGreatDoorJ12
import Derived.Test.YteplcnpmdjdlkaaGreatDoorRegBJ
import Derived.Test.YteplcnpmdjdlkaaGreatDoorJ8
namespace Go.Proofs
open Go.Shelf
def Tryz.keysA_ren : Go.Shelf.Ren := ⟨fun | 7 => 26 | 10 => 42 | n => n, fun | 23 => 56 | 26 => 9 | 3 => 36 | 28 => 62 | 0 => 0 | 27 => 61 | 33 => 53 | 4 => 4 | n => n, fun | n => n⟩
theorem Tryz.keysA : Go.Proofs.SlLaysZ.n7 Tryz.prog Tryz.keysA_ren := {
  mixed := by kernel_rfl
  f7 := ⟨Tryz.f26.name, by decide, Tryz.func26.trans (congrArg some (by kernel_rfl))⟩
  f10 := ⟨Tryz.f42.name, by decide, Tryz.func42.trans (congrArg some (by kernel_rfl))⟩
  t0 := Tryz.underlying0
  a0 := Tryz.isAgg0
  z0 := Tryz.sizeOf0
  v0 := Tryz.zeroValue0
  t4 := Tryz.underlying4
  a4 := Tryz.isAgg4
  z4 := Tryz.sizeOf4
  v4 := Tryz.zeroValue4
  t23 := Tryz.underlying56
  a23 := Tryz.isAgg56
  z23 := Tryz.sizeOf56
  v23 := Tryz.zeroValue56
  t26 := Tryz.underlying9
  a26 := Tryz.isAgg9
  z26 := Tryz.sizeOf9
  v26 := Tryz.zeroValue9
  t27 := Tryz.underlying61
  a27 := Tryz.isAgg61
  z27 := Tryz.sizeOf61
  v27 := Tryz.zeroValue61
  t28 := Tryz.underlying62
  a28 := Tryz.isAgg62
  z28 := Tryz.sizeOf62
  v28 := Tryz.zeroValue62
  t33 := Tryz.underlying53
  a33 := Tryz.isAgg53
  z33 := Tryz.sizeOf53
  v33 := Tryz.zeroValue53 }
def Tryz.sortedA_ren : Go.Shelf.Ren := ⟨fun | 6 => 25 | 8 => 40 | 9 => 41 | 11 => 56 | 13 => 58 | 12 => 57 | 23 => 81 | 24 => 82 | 14 => 72 | 15 => 73 | 16 => 74 | 17 => 75 | 18 => 76 | 19 => 77 | 20 => 78 | 21 => 79 | 22 => 80 | 25 => 91 | 26 => 92 | 27 => 93 | 28 => 94 | 29 => 95 | 30 => 96 | 31 => 102 | n => n, fun | 26 => 9 | 28 => 62 | 24 => 43 | 0 => 0 | 3 => 3 | 37 => 89 | 48 => 115 | 50 => 117 | 4 => 4 | 40 => 108 | 39 => 107 | 45 => 70 | 5 => 5 | 9 => 9 | 51 => 126 | 55 => 130 | 57 => 133 | 58 => 80 | 33 => 53 | n => n, fun | n => n⟩
theorem Tryz.sortedA : Go.Proofs.SlLaysZ.n6 Tryz.prog Tryz.sortedA_ren := {
  mixed := by kernel_rfl
  f6 := ⟨Tryz.f25.name, by decide, Tryz.func25.trans (congrArg some (by kernel_rfl))⟩
  f8 := ⟨Tryz.f40.name, by decide, Tryz.func40.trans (congrArg some (by kernel_rfl))⟩
  f11 := ⟨Tryz.f56.name, by decide, Tryz.func56.trans (congrArg some (by kernel_rfl))⟩
  t0 := Tryz.underlying0
  a0 := Tryz.isAgg0
  z0 := Tryz.sizeOf0
  v0 := Tryz.zeroValue0
  t24 := Tryz.underlying43
  a24 := Tryz.isAgg43
  z24 := Tryz.sizeOf43
  v24 := Tryz.zeroValue43
  t26 := Tryz.underlying9
  a26 := Tryz.isAgg9
  z26 := Tryz.sizeOf9
  v26 := Tryz.zeroValue9
  t28 := Tryz.underlying62
  a28 := Tryz.isAgg62
  z28 := Tryz.sizeOf62
  v28 := Tryz.zeroValue62
  i26 := by kernel_rfl }
def Tryz.sortA_ren : Go.Shelf.Ren := ⟨fun | 6 => 41 | 8 => 58 | 9 => 57 | 19 => 81 | 20 => 82 | 21 => 72 | 22 => 73 | 23 => 74 | 24 => 75 | 25 => 76 | 26 => 77 | 27 => 78 | 28 => 79 | 29 => 80 | 36 => 91 | 31 => 92 | 32 => 93 | 37 => 94 | 38 => 95 | 39 => 96 | 41 => 102 | n => n, fun | 27 => 43 | 29 => 9 | 3 => 3 | 32 => 89 | 26 => 43 | 0 => 0 | 44 => 115 | 46 => 117 | 4 => 4 | 36 => 108 | 35 => 107 | 41 => 70 | 5 => 5 | 9 => 9 | 53 => 126 | 57 => 130 | 63 => 133 | 64 => 80 | n => n, fun | n => n⟩
theorem Tryz.sortA : Go.Proofs.SlLaysM.n6 Tryz.prog Tryz.sortA_ren := {
  mixed := by kernel_rfl
  f6 := ⟨Tryz.f41.name, by decide, Tryz.func41.trans (congrArg some (by kernel_rfl))⟩
  f8 := Tryz.func58.trans (congrArg some (by kernel_rfl))
  f9 := ⟨Tryz.f57.name, by decide, Tryz.func57.trans (congrArg some (by kernel_rfl))⟩
  f19 := Tryz.func81.trans (congrArg some (by kernel_rfl))
  f20 := Tryz.func82.trans (congrArg some (by kernel_rfl))
  f21 := ⟨Tryz.f72.name, by decide, Tryz.func72.trans (congrArg some (by kernel_rfl))⟩
  f22 := ⟨Tryz.f73.name, by decide, Tryz.func73.trans (congrArg some (by kernel_rfl))⟩
  f23 := ⟨Tryz.f74.name, by decide, Tryz.func74.trans (congrArg some (by kernel_rfl))⟩
  f24 := ⟨Tryz.f75.name, by decide, Tryz.func75.trans (congrArg some (by kernel_rfl))⟩
  f25 := ⟨Tryz.f76.name, by decide, Tryz.func76.trans (congrArg some (by kernel_rfl))⟩
  f26 := ⟨Tryz.f77.name, by decide, Tryz.func77.trans (congrArg some (by kernel_rfl))⟩
  f27 := ⟨Tryz.f78.name, by decide, Tryz.func78.trans (congrArg some (by kernel_rfl))⟩
  f28 := ⟨Tryz.f79.name, by decide, Tryz.func79.trans (congrArg some (by kernel_rfl))⟩
  f29 := ⟨Tryz.f80.name, by decide, Tryz.func80.trans (congrArg some (by kernel_rfl))⟩
  f31 := Tryz.func92.trans (congrArg some (by kernel_rfl))
  f32 := Tryz.func93.trans (congrArg some (by kernel_rfl))
  f36 := ⟨Tryz.f91.name, by decide, Tryz.func91.trans (congrArg some (by kernel_rfl))⟩
  f37 := ⟨Tryz.f94.name, by decide, Tryz.func94.trans (congrArg some (by kernel_rfl))⟩
  f38 := ⟨Tryz.f95.name, by decide, Tryz.func95.trans (congrArg some (by kernel_rfl))⟩
  f39 := ⟨Tryz.f96.name, by decide, Tryz.func96.trans (congrArg some (by kernel_rfl))⟩
  f41 := ⟨Tryz.f102.name, by decide, Tryz.func102.trans (congrArg some (by kernel_rfl))⟩
  t0 := Tryz.underlying0
  a0 := Tryz.isAgg0
  z0 := Tryz.sizeOf0
  v0 := Tryz.zeroValue0
  t3 := Tryz.underlying3
  a3 := Tryz.isAgg3
  z3 := Tryz.sizeOf3
  v3 := Tryz.zeroValue3
  t4 := Tryz.underlying4
  a4 := Tryz.isAgg4
  z4 := Tryz.sizeOf4
  v4 := Tryz.zeroValue4
  t5 := Tryz.underlying5
  a5 := Tryz.isAgg5
  z5 := Tryz.sizeOf5
  v5 := Tryz.zeroValue5
  t9 := Tryz.underlying9
  a9 := Tryz.isAgg9
  z9 := Tryz.sizeOf9
  v9 := Tryz.zeroValue9
  t26 := Tryz.underlying43
  a26 := Tryz.isAgg43
  z26 := Tryz.sizeOf43
  v26 := Tryz.zeroValue43
  t27 := Tryz.underlying43
  a27 := Tryz.isAgg43
  z27 := Tryz.sizeOf43
  v27 := Tryz.zeroValue43
  t29 := Tryz.underlying9
  a29 := Tryz.isAgg9
  z29 := Tryz.sizeOf9
  v29 := Tryz.zeroValue9
  t32 := Tryz.underlying89
  a32 := Tryz.isAgg89
  z32 := Tryz.sizeOf89
  v32 := Tryz.zeroValue89
  t35 := Tryz.underlying107
  a35 := Tryz.isAgg107
  z35 := Tryz.sizeOf107
  v35 := Tryz.zeroValue107
  t36 := Tryz.underlying108
  a36 := Tryz.isAgg108
  z36 := Tryz.sizeOf108
  v36 := Tryz.zeroValue108
  t41 := Tryz.underlying70
  a41 := Tryz.isAgg70
  z41 := Tryz.sizeOf70
  v41 := Tryz.zeroValue70
  t44 := Tryz.underlying115
  a44 := Tryz.isAgg115
  z44 := Tryz.sizeOf115
  v44 := Tryz.zeroValue115
  t46 := Tryz.underlying117
  a46 := Tryz.isAgg117
  z46 := Tryz.sizeOf117
  v46 := Tryz.zeroValue117
  t53 := Tryz.underlying126
  a53 := Tryz.isAgg126
  z53 := Tryz.sizeOf126
  v53 := Tryz.zeroValue126
  t57 := Tryz.underlying130
  a57 := Tryz.isAgg130
  z57 := Tryz.sizeOf130
  v57 := Tryz.zeroValue130
  t63 := Tryz.underlying133
  a63 := Tryz.isAgg133
  z63 := Tryz.sizeOf133
  v63 := Tryz.zeroValue133
  t64 := Tryz.underlying80
  a64 := Tryz.isAgg80
  z64 := Tryz.sizeOf80
  v64 := Tryz.zeroValue80 }
def Tryz.cloneA_ren : Go.Shelf.Ren := ⟨fun | 5 => 33 | 7 => 48 | n => n, fun | 23 => 56 | 25 => 9 | 3 => 36 | 4 => 4 | 20 => 20 | n => n, fun | n => n⟩
theorem Tryz.cloneA : Go.Proofs.SlLaysW.n5 Tryz.prog Tryz.cloneA_ren := {
  mixed := by kernel_rfl
  f5 := ⟨Tryz.f33.name, by decide, Tryz.func33.trans (congrArg some (by kernel_rfl))⟩
  f7 := Tryz.func48.trans (congrArg some (by kernel_rfl))
  t4 := Tryz.underlying4
  a4 := Tryz.isAgg4
  z4 := Tryz.sizeOf4
  v4 := Tryz.zeroValue4
  t20 := Tryz.underlying20
  a20 := Tryz.isAgg20
  z20 := Tryz.sizeOf20
  v20 := Tryz.zeroValue20
  t23 := Tryz.underlying56
  a23 := Tryz.isAgg56
  z23 := Tryz.sizeOf56
  v23 := Tryz.zeroValue56 }
end Go.Proofs
namespace Go.Proofs.YteplcnpmdjdlkaaGreatDoor
open Go.RowKit Go.Maps Go.Sort Go.Shelf Go.ChangeMaps
set_option linter.unusedVariables false
set_option linter.unusedSimpArgs false
/-- Bytes, as many as a text may have. -/
def KSz (k : ByteArray) : Prop := k.size ≤ 9223372036854775807
theorem max_is : maxLen = 9223372036854775807 := by decide
theorem ksz {k : ByteArray} (h : KSz k) : k.size ≤ maxLen := by rw [max_is]; exact h
theorem str_key : KeyF Tryz.prog 9 Value.string KSz :=
  ⟨string_keyed Tryz.underlying9, fun k hk => ⟨_, Go.WideMaps.keyOf_string_mk Tryz.underlying9 (ksz hk)⟩, fun a b h => by injection h⟩
theorem rg_keys {V : Type} (vf : V → Value) (l : List (ByteArray × V)) (hl : KeysIn KSz l) (n : Nat) : (entsOf Value.string vf n l).map (Go.WideElems.rg (H := Nat) Tryz.prog 9 (fun _ => some (DataW.nil, []))) = l.map fun p => (Lit.string p.1.data.toList, DataW.nil) := by
  have ha := hl.all
  clear hl
  induction l generalizing n with
  | nil => rfl
  | cons p r ih =>
    obtain ⟨a, b⟩ := p
    simp only [entsOf, List.map_cons]
    rw [ih (n + 1) (fun q hq => ha q (List.mem_cons_of_mem _ hq))]
    have hk := Go.WideMaps.keyOf_string_mk Tryz.underlying9 (ksz (ha (a, b) (List.mem_cons_self ..)))
    have h := Go.WideElems.rd_mk (H := Nat) (R := fun _ => some (DataW.nil, [])) (val := vf b) (born := n) (yv := (DataW.nil, [])) hk rfl
    rw [Go.WideElems.rg_of h]
theorem words_own {V : Type} {vf : V → Value} {l : List (ByteArray × V)} {w : World} {b : Nat} (hl : KeysIn KSz l) (hn : l.length ≤ 9223372036854775807) (hb : w.heap[b]? = some (mapO Value.string vf l)) :
    ∃ D : DataW Nat, w.ownsMap Tryz.prog 9 (fun _ => some (DataW.nil, [])) b l.length D ∧ Maps.size D = l.length ∧ (strKeys D).Perm (l.map fun p => p.1.data.toList) := by
  refine ⟨.map (((entsOf Value.string vf 0 l).map (Go.WideElems.rg (H := Nat) Tryz.prog 9 (fun _ => some (DataW.nil, [])))).foldr DataW.insert []), ⟨_, _, hb, ⟨by rw [List.size_toArray, ents_len, max_is]; exact hn, ?_, fun x hx => ?_⟩, by simp [ents_len], by simp⟩, ?_, ?_⟩
  · have hg : ∀ i (x : MapEntry), (entsOf Value.string vf 0 l)[i]? = some x → x.born = i ∧ ∃ p, l[i]? = some p ∧ x.key = .string p.1 := fun i x hx => by
      rw [ents_get] at hx
      obtain ⟨p, hp, rfl⟩ := Option.map_eq_some_iff.1 hx
      exact ⟨Nat.zero_add i, p, hp, rfl⟩
    refine ⟨fun x hx => ?_, ?_, ?_⟩
    · obtain ⟨i, hi⟩ := List.getElem?_of_mem hx
      obtain ⟨h1, p, hp, _⟩ := hg i x (by simpa using hi)
      have := (List.getElem?_eq_some_iff.1 hp).1
      omega
    · have e : (entsOf Value.string vf 0 l).map (·.born) = List.range l.length := by
        apply List.ext_getElem?
        intro i
        rw [List.getElem?_map, ents_get]
        rcases Nat.lt_or_ge i l.length with h | h
        · simp [h]
        · simp [h]
      rw [e]
      exact List.nodup_range
    · have e : (entsOf Value.string vf 0 l).map (·.key) = (l.map Prod.fst).map Value.string := by
        apply List.ext_getElem?
        intro i
        rw [List.getElem?_map, ents_get, List.map_map, List.getElem?_map]
        simp [Function.comp_def]
      show (List.map (·.key) (entsOf Value.string vf 0 l)).Nodup
      rw [e]
      exact List.Pairwise.map _ (fun a b h e => h (by injection e)) hl.nodup
  · obtain ⟨p, hp, h1, h2⟩ := ents_mem (by simpa using hx)
    exact ⟨_, Go.WideElems.rd_mk (yv := (DataW.nil, [])) (born := x.born) (by rw [h1]; exact Go.WideMaps.keyOf_string_mk Tryz.underlying9 (ksz (hl.all p hp))) rfl⟩
  · show (((entsOf Value.string vf 0 l).map _).foldr DataW.insert []).length = _
    rw [length_sorted, List.length_map, ents_len]
  · show ((((entsOf Value.string vf 0 l).map _).foldr DataW.insert []).map fun p => strOf p.1).Perm _
    refine ((Go.WideShapes.sorted_perm _).map _).trans (List.Perm.of_eq ?_)
    rw [rg_keys vf l hl 0, List.map_map]
    rfl
theorem sorts_fence (m : Nat) : AnyZ.SortsIn Tryz.prog Tryz.sortedA_ren Fence.wide m :=
  ⟨fun blk off cap ss W hH hblk hsz => callsIn_wide.2 (AnyM.slices_Sort_string Tryz.sortA blk off cap ss W hH hblk hsz),
   fun p cap W => callsIn_wide.2 (AnyM.slices_Sort_string_none Tryz.sortA p cap W)⟩
theorem keys_call (mb : Option Nat) (W : World) : Calls Tryz.prog 26 #[.map mb] W fun e w' => e = .returned (.func (.func 42) #[] #[.pointer (some ⟨W.heap.size, 0, none⟩)]) ∧ w' = W.alloc (.cells #[.map mb] 56) :=
  (callsIn_wide (n := 5)).1 (AnyZ.keys_in Tryz.keysA Fence.wide 5 trivial rfl mb W)
theorem sorted_call {V : Type} {vf : V → Value} (l : List (ByteArray × V)) (w : World) (b : Nat) (hl : KeysIn KSz l) (hn : l.length ≤ 1000000) (hb : w.heap[b]? = some (mapO Value.string vf l)) :
    Calls Tryz.prog 25 #[.func (.func 42) #[] #[.pointer (some ⟨w.heap.size, 0, none⟩)]] (w.alloc (.cells #[.map (some b)] 56)) fun e w' => ∃ (v : Value) (ss : List (List UInt8)), e = .returned v ∧ ss.Perm (l.map fun p => p.1.data.toList) ∧
      w'.ownsRow w.heap.size 9 1 v ss.length ((ss.mergeSort (fun x y => decide (x ≤ y))).map encStr) ∧ (v = .slice none 0 0 ↔ ss = []) ∧ Below w.heap.size w w' := by
  obtain ⟨D, hown, hsz, hperm⟩ := words_own (w := w) (b := b) (vf := vf) hl (by omega) hb
  have hbl := hown.lt
  have hseq : SeqGives Fence.wide 2 Tryz.prog 42 #[.pointer (some ⟨w.heap.size, 0, none⟩)] encStr (fun ss => ss.Perm (strKeys D)) (Maps.size D) (w.alloc (.cells #[.map (some b)] 56)) :=
    AnyZ.keys_gives (ρ := Tryz.keysA_ren) { Tryz.keysA with } Fence.wide _ trivial rfl (by omega) w.heap.size b l.length D _ (by simp) (by simp) (by
      obtain ⟨es, clock, hb, Ft, hs, hD⟩ := hown
      exact ⟨es, clock, (Below.heap_alloc _ _ b hbl).trans hb, Ft, hs, hD⟩)
  have cS := AnyZ.sorted_in Tryz.sortedA Fence.wide 5 trivial trivial trivial trivial rfl (by omega) (sorts_fence _) (enters_of Tryz.func41 (by kernel_rfl) rfl) 42 #[.pointer (some ⟨w.heap.size, 0, none⟩)] trivial (enters_of Tryz.func42 (by kernel_rfl) rfl) _ _ (by rw [hsz, max_is]; omega) (by rw [hsz]; omega) _ hseq
  change CallsIn _ _ Tryz.prog 25 _ _ _ at cS
  refine ((callsIn_wide (n := 5)).1 cS).mono ?_
  rintro e w' ⟨v, ss, rfl, hS, hrow, hnil, hbw⟩
  exact ⟨v, ss, rfl, hS.trans hperm, ownsRow_base_a hrow (by simp), hnil, ((Below.refl _ w).alloc (Nat.le_refl _) _).trans (hbw.mono (by simp))⟩
theorem clone_call {K V : Type} [DecidableEq K] {kf : K → Value} {vf : V → Value} (l : List (K × V)) (w : World) (b : Nat) (hb : w.heap[b]? = some (mapO kf vf l)) :
    Calls Tryz.prog 33 #[.map (some b)] w fun e w' => e = .returned (.map (some w.heap.size)) ∧ w' = w.alloc (mapO kf vf l) := AnyW.maps_Clone Tryz.cloneA b _ _ w hb
end Go.Proofs.YteplcnpmdjdlkaaGreatDoor
namespace Go.Proofs.YteplcnpmdjdlkaaGreatDoor
open Go.RowKit
set_option linter.unusedVariables false
set_option linter.unusedSimpArgs false
/-- All that was there but one block is as it was. -/
structure But (b : Nat) (w w' : World) : Prop where
  os : w'.os = w.os
  tape : w'.tape = w.tape
  output : w'.output = w.output
  size : w.heap.size ≤ w'.heap.size
  block : ∀ k, k < w.heap.size → k ≠ b → w'.heap[k]? = w.heap[k]?
theorem But.of_below {b : Nat} {w w' : World} (h : Below w.heap.size w w') : But b w w' := ⟨h.os, h.tape, h.output, h.size, fun k hk _ => h.block k hk⟩
theorem But.then {b : Nat} {w w1 w' : World} (h : But b w w1) (k : But b w1 w') : But b w w' := ⟨k.os.trans h.os, k.tape.trans h.tape, k.output.trans h.output, Nat.le_trans h.size k.size, fun i hi hb => (k.block i (Nat.lt_of_lt_of_le hi h.size) hb).trans (h.block i hi hb)⟩
theorem But.refl (b : Nat) (w : World) : But b w w := ⟨rfl, rfl, rfl, Nat.le_refl _, fun _ _ _ => rfl⟩
theorem But.turn {b : Nat} {w w' : World} (ho : ∀ j, j ≠ b → w'.heap[j]? = w.heap[j]?) (hb : Below b w w') : But b w w' := ⟨hb.os, hb.tape, hb.output, hb.size, fun k _ h => ho k h⟩
/-- Below a block that is younger. -/
theorem But.below {b B : Nat} {w w' : World} (h : But b w w') (hB : B ≤ b) (hs : B ≤ w.heap.size) : Below B w w' := ⟨h.os, h.tape, h.output, h.size, fun k hk => h.block k (Nat.lt_of_lt_of_le hk hs) (by omega)⟩
/-- Known blocks, one of them turned by a call. -/
theorem Boxes.turn {w0 W W' : World} {L : List (Nat × Obj)} {b : Nat} {o o' : Obj} (h : Boxes w0 W L) (i : Nat) (hp : L[i]? = some (b, o)) (hb : But b W W') (hn : W'.heap[b]? = some o') : Boxes w0 W' (L.set i (b, o')) := by
  have hi : i < L.length := (List.getElem?_eq_some_iff.1 hp).1
  have hfst : ∀ (j : Nat) q, (L.set i (b, o'))[j]? = some q → (j = i ∧ q = (b, o')) ∨ (j ≠ i ∧ L[j]? = some q) := by
    intro j q hq
    rw [List.getElem?_set] at hq
    by_cases hji : i = j
    · subst hji; simp [hi] at hq; exact .inl ⟨rfl, hq.symm⟩
    · rw [if_neg hji] at hq; exact .inr ⟨fun e => hji e.symm, hq⟩
  have hB := (h.rows i _ hp).1
  refine ⟨h.below.trans (hb.below hB h.below.size), fun j q hq => ?_, fun j k q r hq hr hjk => ?_⟩
  · rcases hfst j q hq with ⟨rfl, rfl⟩ | ⟨h1, h2⟩
    · exact ⟨(h.rows j _ hp).1, hn⟩
    · exact ⟨(h.rows j q h2).1, (hb.block q.1 (h.lt j h2) (h.apart j i q _ h2 hp h1)).trans (h.at_ j h2)⟩
  · rcases hfst j q hq with ⟨rfl, rfl⟩ | ⟨h1, h2⟩ <;> rcases hfst k r hr with ⟨rfl, rfl⟩ | ⟨h3, h4⟩
    · omega
    · exact h.apart j k (b, o) r hp h4 hjk
    · exact h.apart j k q (b, o) h2 hp hjk
    · exact h.apart j k q r h2 h4 hjk
/-- Known blocks, and those that a call made. -/
theorem Boxes.app {w0 W W' : World} {L M : List (Nat × Obj)} (h : Boxes w0 W L) (k : Boxes W W' M) : Boxes w0 W' (L ++ M) := by
  have h1 := h.step k.below
  have key : ∀ (j : Nat) r, (L ++ M)[j]? = some r → (j < L.length ∧ L[j]? = some r) ∨ (L.length ≤ j ∧ M[j - L.length]? = some r) := by
    intro j r hr
    rcases Nat.lt_or_ge j L.length with hj | hj
    · rw [List.getElem?_append_left hj] at hr; exact .inl ⟨hj, hr⟩
    · rw [List.getElem?_append_right hj] at hr; exact .inr ⟨hj, hr⟩
  refine ⟨h1.below, fun i p hp => ?_, fun i j p q hp hq hij => ?_⟩
  · rcases key i p hp with ⟨_, hp⟩ | ⟨_, hp⟩
    · exact h1.rows i p hp
    · exact ⟨Nat.le_trans h.below.size (k.rows _ p hp).1, (k.rows _ p hp).2⟩
  · rcases key i p hp with ⟨h2, h3⟩ | ⟨h2, h3⟩ <;> rcases key j q hq with ⟨h4, h5⟩ | ⟨h4, h5⟩
    · exact h.apart i j p q h3 h5 hij
    · have := h.lt i h3; have := (k.rows _ q h5).1; omega
    · have := h.lt j h5; have := (k.rows _ p h3).1; omega
    · exact k.apart _ _ p q h3 h5 (by omega)
theorem Boxes.drop_ {w0 W : World} {L M : List (Nat × Obj)} (h : Boxes w0 W (L ++ M)) : Boxes w0 W L := by
  have := h.drop (n := L.length)
  rwa [List.take_left'] at this
  rfl
abbrev Wd := List (ByteArray × OT)
/-- A map of words. -/
def wordsO (l : Wd) : Obj := mapO Value.string OT.v l
structure WdOk (l : Wd) : Prop where
  keys : KeysIn KSz l
  ok : ∀ p ∈ l, OT.Ok p.2
theorem WdOk.nil : WdOk [] := ⟨KeysIn.nil, fun p hp => by cases hp⟩
theorem WdOk.put {l : Wd} (h : WdOk l) {k : ByteArray} (hk : KSz k) {y : OT} (hy : OT.Ok y) : WdOk (assocPut l k y) :=
  ⟨h.keys.put hk y, fun p hp => by
    rcases put_mem hp with rfl | hp
    · exact hy
    · exact h.ok p hp⟩
theorem WdOk.at_ {l : Wd} (h : WdOk l) {k : ByteArray} {y : OT} (hy : assoc l k = some y) : OT.Ok y := h.ok _ (assoc_mem hy)
/-- The map's own block: it leads to the words. -/
def headO (b : Nat) : Obj := .cells #[.map (some b)] 58
def zOT : OT := ⟨zeroO, .no⟩
theorem zOT_ok : OT.Ok zOT := ⟨rfl, rfl, by decide, ⟨by decide, by decide⟩, ⟨by decide, by decide⟩, ⟨by decide, by decide⟩, fun B W => VT.no_in B W, rfl, rfl⟩
theorem op_zero (W : World) : (zeroValue 36).run Tryz.prog W = .ok (.agg zeroO.c) W := by kernel_rfl
/-- Does an operation count, against these words? -/
def accB (x : OT) (l : Wd) : Bool := (x.o.K == 1 || x.o.K == 2) && x.good && (match assoc l x.o.key with
  | some y => afterB x.o y.o
  | none => true)
/-- What an operation leaves. -/
def Applied (x : OT) (l : Wd) (r : Bool) (l2 : Wd) : Prop := r = accB x l ∧ if accB x l = true then ∃ y, OT.Ok y ∧ OT.Same x y ∧ l2 = assocPut l x.o.key y else l2 = l
theorem Applied.ok {x : OT} {l l2 : Wd} {r : Bool} (h : Applied x l r l2) (hl : WdOk l) (hk : KSz x.o.key) : WdOk l2 := by
  obtain ⟨_, h⟩ := h
  split at h
  · obtain ⟨y, hy, _, rfl⟩ := h
    exact hl.put hk hy
  · rw [h]; exact hl
end Go.Proofs.YteplcnpmdjdlkaaGreatDoor
