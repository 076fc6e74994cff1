/-
  The shelf's contracts at this dump, in plain words. No condition.
  slices.Sorted(maps.Keys(m)) over a map of operations by strings; maps.Clone of it. Condition: each key stands once.
-/
import Derived.Shelf.SlIter.Nil
import Derived.Shelf.SortM.Plain
import Derived.Shelf.SortM.SortNone
import Derived.Shelf.SlMaps.Clone
import Derived.Ground.GgzProg
import Derived.Ground.SlgmProg
import Derived.Ground.SlmcProg
import Derived.Test.YtffcpmohanhihaaGreatDoorProg
import Derived.Test.YtffcpmohanhihaaGreatDoorJ7
import Derived.Test.YtffcpmohanhihaaGreatDoorJ14
namespace Go.Proofs
open Go.Shelf
def Tryz.keysA_ren : Go.Shelf.Ren := ⟨fun | 7 => 93 | 10 => 108 | n => n, fun | 23 => 118 | 26 => 9 | 3 => 40 | 28 => 142 | 0 => 0 | 27 => 141 | 33 => 110 | 4 => 4 | n => n, fun | n => n⟩
theorem Tryz.keysA : Go.Proofs.SlLaysZ.n7 Tryz.prog Tryz.keysA_ren := {
  mixed := by kernel_rfl
  f7 := ⟨Tryz.f93.name, by decide, Tryz.func93.trans (congrArg some (by kernel_rfl))⟩
  f10 := ⟨Tryz.f108.name, by decide, Tryz.func108.trans (congrArg some (by kernel_rfl))⟩
  t0 := Tryz.underlying0
  a0 := Tryz.isAgg0
  z0 := Tryz.sizeOf0
  v0 := Tryz.zeroValue0
  t4 := Tryz.underlying4
  a4 := Tryz.isAgg4
  z4 := Tryz.sizeOf4
  v4 := Tryz.zeroValue4
  t23 := Tryz.underlying118
  a23 := Tryz.isAgg118
  z23 := Tryz.sizeOf118
  v23 := Tryz.zeroValue118
  t26 := Tryz.underlying9
  a26 := Tryz.isAgg9
  z26 := Tryz.sizeOf9
  v26 := Tryz.zeroValue9
  t27 := Tryz.underlying141
  a27 := Tryz.isAgg141
  z27 := Tryz.sizeOf141
  v27 := Tryz.zeroValue141
  t28 := Tryz.underlying142
  a28 := Tryz.isAgg142
  z28 := Tryz.sizeOf142
  v28 := Tryz.zeroValue142
  t33 := Tryz.underlying110
  a33 := Tryz.isAgg110
  z33 := Tryz.sizeOf110
  v33 := Tryz.zeroValue110 }
def Tryz.sortedA_ren : Go.Shelf.Ren := ⟨fun | 6 => 92 | 8 => 106 | 9 => 107 | 11 => 123 | 13 => 125 | 12 => 124 | 23 => 142 | 24 => 143 | 14 => 133 | 15 => 134 | 16 => 135 | 17 => 136 | 18 => 137 | 19 => 138 | 20 => 139 | 21 => 140 | 22 => 141 | 25 => 149 | 26 => 150 | 27 => 151 | 28 => 152 | 29 => 153 | 30 => 154 | 31 => 160 | n => n, fun | 26 => 9 | 28 => 142 | 24 => 85 | 0 => 0 | 3 => 3 | 37 => 159 | 48 => 188 | 50 => 190 | 4 => 4 | 40 => 182 | 39 => 181 | 45 => 125 | 5 => 5 | 9 => 9 | 51 => 192 | 55 => 196 | 57 => 207 | 58 => 144 | 33 => 110 | n => n, fun | n => n⟩
theorem Tryz.sortedA : Go.Proofs.SlLaysZ.n6 Tryz.prog Tryz.sortedA_ren := {
  mixed := by kernel_rfl
  f6 := ⟨Tryz.f92.name, by decide, Tryz.func92.trans (congrArg some (by kernel_rfl))⟩
  f8 := ⟨Tryz.f106.name, by decide, Tryz.func106.trans (congrArg some (by kernel_rfl))⟩
  f11 := ⟨Tryz.f123.name, by decide, Tryz.func123.trans (congrArg some (by kernel_rfl))⟩
  t0 := Tryz.underlying0
  a0 := Tryz.isAgg0
  z0 := Tryz.sizeOf0
  v0 := Tryz.zeroValue0
  t24 := Tryz.underlying85
  a24 := Tryz.isAgg85
  z24 := Tryz.sizeOf85
  v24 := Tryz.zeroValue85
  t26 := Tryz.underlying9
  a26 := Tryz.isAgg9
  z26 := Tryz.sizeOf9
  v26 := Tryz.zeroValue9
  t28 := Tryz.underlying142
  a28 := Tryz.isAgg142
  z28 := Tryz.sizeOf142
  v28 := Tryz.zeroValue142
  i26 := by kernel_rfl }
def Tryz.sortA_ren : Go.Shelf.Ren := ⟨fun | 6 => 107 | 8 => 125 | 9 => 124 | 19 => 142 | 20 => 143 | 21 => 133 | 22 => 134 | 23 => 135 | 24 => 136 | 25 => 137 | 26 => 138 | 27 => 139 | 28 => 140 | 29 => 141 | 36 => 149 | 31 => 150 | 32 => 151 | 37 => 152 | 38 => 153 | 39 => 154 | 41 => 160 | n => n, fun | 27 => 85 | 29 => 9 | 3 => 3 | 32 => 159 | 26 => 85 | 0 => 0 | 44 => 188 | 46 => 190 | 4 => 4 | 36 => 182 | 35 => 181 | 41 => 125 | 5 => 5 | 9 => 9 | 53 => 192 | 57 => 196 | 63 => 207 | 64 => 144 | n => n, fun | n => n⟩
theorem Tryz.sortA : Go.Proofs.SlLaysM.n6 Tryz.prog Tryz.sortA_ren := {
  mixed := by kernel_rfl
  f6 := ⟨Tryz.f107.name, by decide, Tryz.func107.trans (congrArg some (by kernel_rfl))⟩
  f8 := Tryz.func125.trans (congrArg some (by kernel_rfl))
  f9 := ⟨Tryz.f124.name, by decide, Tryz.func124.trans (congrArg some (by kernel_rfl))⟩
  f19 := Tryz.func142.trans (congrArg some (by kernel_rfl))
  f20 := Tryz.func143.trans (congrArg some (by kernel_rfl))
  f21 := ⟨Tryz.f133.name, by decide, Tryz.func133.trans (congrArg some (by kernel_rfl))⟩
  f22 := ⟨Tryz.f134.name, by decide, Tryz.func134.trans (congrArg some (by kernel_rfl))⟩
  f23 := ⟨Tryz.f135.name, by decide, Tryz.func135.trans (congrArg some (by kernel_rfl))⟩
  f24 := ⟨Tryz.f136.name, by decide, Tryz.func136.trans (congrArg some (by kernel_rfl))⟩
  f25 := ⟨Tryz.f137.name, by decide, Tryz.func137.trans (congrArg some (by kernel_rfl))⟩
  f26 := ⟨Tryz.f138.name, by decide, Tryz.func138.trans (congrArg some (by kernel_rfl))⟩
  f27 := ⟨Tryz.f139.name, by decide, Tryz.func139.trans (congrArg some (by kernel_rfl))⟩
  f28 := ⟨Tryz.f140.name, by decide, Tryz.func140.trans (congrArg some (by kernel_rfl))⟩
  f29 := ⟨Tryz.f141.name, by decide, Tryz.func141.trans (congrArg some (by kernel_rfl))⟩
  f31 := Tryz.func150.trans (congrArg some (by kernel_rfl))
  f32 := Tryz.func151.trans (congrArg some (by kernel_rfl))
  f36 := ⟨Tryz.f149.name, by decide, Tryz.func149.trans (congrArg some (by kernel_rfl))⟩
  f37 := ⟨Tryz.f152.name, by decide, Tryz.func152.trans (congrArg some (by kernel_rfl))⟩
  f38 := ⟨Tryz.f153.name, by decide, Tryz.func153.trans (congrArg some (by kernel_rfl))⟩
  f39 := ⟨Tryz.f154.name, by decide, Tryz.func154.trans (congrArg some (by kernel_rfl))⟩
  f41 := ⟨Tryz.f160.name, by decide, Tryz.func160.trans (congrArg some (by kernel_rfl))⟩
  t0 := Tryz.underlying0
  a0 := Tryz.isAgg0
  z0 := Tryz.sizeOf0
  v0 := Tryz.zeroValue0
  t3 := Tryz.underlying3
  a3 := Tryz.isAgg3
  z3 := Tryz.sizeOf3
  v3 := Tryz.zeroValue3
  t4 := Tryz.underlying4
  a4 := Tryz.isAgg4
  z4 := Tryz.sizeOf4
  v4 := Tryz.zeroValue4
  t5 := Tryz.underlying5
  a5 := Tryz.isAgg5
  z5 := Tryz.sizeOf5
  v5 := Tryz.zeroValue5
  t9 := Tryz.underlying9
  a9 := Tryz.isAgg9
  z9 := Tryz.sizeOf9
  v9 := Tryz.zeroValue9
  t26 := Tryz.underlying85
  a26 := Tryz.isAgg85
  z26 := Tryz.sizeOf85
  v26 := Tryz.zeroValue85
  t27 := Tryz.underlying85
  a27 := Tryz.isAgg85
  z27 := Tryz.sizeOf85
  v27 := Tryz.zeroValue85
  t29 := Tryz.underlying9
  a29 := Tryz.isAgg9
  z29 := Tryz.sizeOf9
  v29 := Tryz.zeroValue9
  t32 := Tryz.underlying159
  a32 := Tryz.isAgg159
  z32 := Tryz.sizeOf159
  v32 := Tryz.zeroValue159
  t35 := Tryz.underlying181
  a35 := Tryz.isAgg181
  z35 := Tryz.sizeOf181
  v35 := Tryz.zeroValue181
  t36 := Tryz.underlying182
  a36 := Tryz.isAgg182
  z36 := Tryz.sizeOf182
  v36 := Tryz.zeroValue182
  t41 := Tryz.underlying125
  a41 := Tryz.isAgg125
  z41 := Tryz.sizeOf125
  v41 := Tryz.zeroValue125
  t44 := Tryz.underlying188
  a44 := Tryz.isAgg188
  z44 := Tryz.sizeOf188
  v44 := Tryz.zeroValue188
  t46 := Tryz.underlying190
  a46 := Tryz.isAgg190
  z46 := Tryz.sizeOf190
  v46 := Tryz.zeroValue190
  t53 := Tryz.underlying192
  a53 := Tryz.isAgg192
  z53 := Tryz.sizeOf192
  v53 := Tryz.zeroValue192
  t57 := Tryz.underlying196
  a57 := Tryz.isAgg196
  z57 := Tryz.sizeOf196
  v57 := Tryz.zeroValue196
  t63 := Tryz.underlying207
  a63 := Tryz.isAgg207
  z63 := Tryz.sizeOf207
  v63 := Tryz.zeroValue207
  t64 := Tryz.underlying144
  a64 := Tryz.isAgg144
  z64 := Tryz.sizeOf144
  v64 := Tryz.zeroValue144 }
end Go.Proofs
namespace Go.Proofs.YtffcpmohanhihaaGreatDoor
open Go.RowKit Go.Maps Go.Sort Go.Shelf Go.ChangeMaps
set_option linter.unusedVariables false
set_option linter.unusedSimpArgs false
/-- Bytes, as many as a text may have. -/
def KSz (k : ByteArray) : Prop := k.size ≤ 9223372036854775807
theorem max_is : maxLen = 9223372036854775807 := by decide
theorem ksz {k : ByteArray} (h : KSz k) : k.size ≤ maxLen := by rw [max_is]; exact h
theorem str_key : KeyF Tryz.prog 9 Value.string KSz :=
  ⟨string_keyed Tryz.underlying9, fun k hk => ⟨_, Go.WideMaps.keyOf_string_mk Tryz.underlying9 (ksz hk)⟩, fun a b h => by injection h⟩
theorem rg_keys {V : Type} (vf : V → Value) (l : List (ByteArray × V)) (hl : KeysIn KSz l) (n : Nat) : (entsOf Value.string vf n l).map (Go.WideElems.rg (H := Nat) Tryz.prog 9 (fun _ => some (DataW.nil, []))) = l.map fun p => (Lit.string p.1.data.toList, DataW.nil) := by
  have ha := hl.all
  clear hl
  induction l generalizing n with
  | nil => rfl
  | cons p r ih =>
    obtain ⟨a, b⟩ := p
    simp only [entsOf, List.map_cons]
    rw [ih (n + 1) (fun q hq => ha q (List.mem_cons_of_mem _ hq))]
    have hk := Go.WideMaps.keyOf_string_mk Tryz.underlying9 (ksz (ha (a, b) (List.mem_cons_self ..)))
    have h := Go.WideElems.rd_mk (H := Nat) (R := fun _ => some (DataW.nil, [])) (val := vf b) (born := n) (yv := (DataW.nil, [])) hk rfl
    rw [Go.WideElems.rg_of h]
theorem words_own {V : Type} {vf : V → Value} {l : List (ByteArray × V)} {w : World} {b : Nat} (hl : KeysIn KSz l) (hn : l.length ≤ 9223372036854775807) (hb : w.heap[b]? = some (mapO Value.string vf l)) :
    ∃ D : DataW Nat, w.ownsMap Tryz.prog 9 (fun _ => some (DataW.nil, [])) b l.length D ∧ Maps.size D = l.length ∧ (strKeys D).Perm (l.map fun p => p.1.data.toList) := by
  refine ⟨.map (((entsOf Value.string vf 0 l).map (Go.WideElems.rg (H := Nat) Tryz.prog 9 (fun _ => some (DataW.nil, [])))).foldr DataW.insert []), ⟨_, _, hb, ⟨by rw [List.size_toArray, ents_len, max_is]; exact hn, ?_, fun x hx => ?_⟩, by simp [ents_len], by simp⟩, ?_, ?_⟩
  · have hg : ∀ i (x : MapEntry), (entsOf Value.string vf 0 l)[i]? = some x → x.born = i ∧ ∃ p, l[i]? = some p ∧ x.key = .string p.1 := fun i x hx => by
      rw [ents_get] at hx
      obtain ⟨p, hp, rfl⟩ := Option.map_eq_some_iff.1 hx
      exact ⟨Nat.zero_add i, p, hp, rfl⟩
    refine ⟨fun x hx => ?_, ?_, ?_⟩
    · obtain ⟨i, hi⟩ := List.getElem?_of_mem hx
      obtain ⟨h1, p, hp, _⟩ := hg i x (by simpa using hi)
      have := (List.getElem?_eq_some_iff.1 hp).1
      omega
    · have e : (entsOf Value.string vf 0 l).map (·.born) = List.range l.length := by
        apply List.ext_getElem?
        intro i
        rw [List.getElem?_map, ents_get]
        rcases Nat.lt_or_ge i l.length with h | h
        · simp [h]
        · simp [h]
      rw [e]
      exact List.nodup_range
    · have e : (entsOf Value.string vf 0 l).map (·.key) = (l.map Prod.fst).map Value.string := by
        apply List.ext_getElem?
        intro i
        rw [List.getElem?_map, ents_get, List.map_map, List.getElem?_map]
        simp [Function.comp_def]
      show (List.map (·.key) (entsOf Value.string vf 0 l)).Nodup
      rw [e]
      exact List.Pairwise.map _ (fun a b h e => h (by injection e)) hl.nodup
  · obtain ⟨p, hp, h1, h2⟩ := ents_mem (by simpa using hx)
    exact ⟨_, Go.WideElems.rd_mk (yv := (DataW.nil, [])) (born := x.born) (by rw [h1]; exact Go.WideMaps.keyOf_string_mk Tryz.underlying9 (ksz (hl.all p hp))) rfl⟩
  · show (((entsOf Value.string vf 0 l).map _).foldr DataW.insert []).length = _
    rw [length_sorted, List.length_map, ents_len]
  · show ((((entsOf Value.string vf 0 l).map _).foldr DataW.insert []).map fun p => strOf p.1).Perm _
    refine ((Go.WideShapes.sorted_perm _).map _).trans (List.Perm.of_eq ?_)
    rw [rg_keys vf l hl 0, List.map_map]
    rfl
theorem sorts_fence (m : Nat) : AnyZ.SortsIn Tryz.prog Tryz.sortedA_ren Fence.wide m :=
  ⟨fun blk off cap ss W hH hblk hsz => callsIn_wide.2 (AnyM.slices_Sort_string Tryz.sortA blk off cap ss W hH hblk hsz),
   fun p cap W => callsIn_wide.2 (AnyM.slices_Sort_string_none Tryz.sortA p cap W)⟩
theorem keys_call (mb : Option Nat) (W : World) : Calls Tryz.prog 93 #[.map mb] W fun e w' => e = .returned (.func (.func 108) #[] #[.pointer (some ⟨W.heap.size, 0, none⟩)]) ∧ w' = W.alloc (.cells #[.map mb] 118) :=
  (callsIn_wide (n := 5)).1 (AnyZ.keys_in Tryz.keysA Fence.wide 5 trivial rfl mb W)
theorem sorted_call {V : Type} {vf : V → Value} (l : List (ByteArray × V)) (w : World) (b : Nat) (hl : KeysIn KSz l) (hn : l.length ≤ 1000000) (hb : w.heap[b]? = some (mapO Value.string vf l)) :
    Calls Tryz.prog 92 #[.func (.func 108) #[] #[.pointer (some ⟨w.heap.size, 0, none⟩)]] (w.alloc (.cells #[.map (some b)] 118)) fun e w' => ∃ (v : Value) (ss : List (List UInt8)), e = .returned v ∧ ss.Perm (l.map fun p => p.1.data.toList) ∧
      w'.ownsRow w.heap.size 9 1 v ss.length ((ss.mergeSort (fun x y => decide (x ≤ y))).map encStr) ∧ (v = .slice none 0 0 ↔ ss = []) ∧ Below w.heap.size w w' := by
  obtain ⟨D, hown, hsz, hperm⟩ := words_own (w := w) (b := b) (vf := vf) hl (by omega) hb
  have hbl := hown.lt
  have hseq : SeqGives Fence.wide 2 Tryz.prog 108 #[.pointer (some ⟨w.heap.size, 0, none⟩)] encStr (fun ss => ss.Perm (strKeys D)) (Maps.size D) (w.alloc (.cells #[.map (some b)] 118)) :=
    AnyZ.keys_gives (ρ := Tryz.keysA_ren) { Tryz.keysA with } Fence.wide _ trivial rfl (by omega) w.heap.size b l.length D _ (by simp) (by simp) (by
      obtain ⟨es, clock, hb, Ft, hs, hD⟩ := hown
      exact ⟨es, clock, (Below.heap_alloc _ _ b hbl).trans hb, Ft, hs, hD⟩)
  have cS := AnyZ.sorted_in Tryz.sortedA Fence.wide 5 trivial trivial trivial trivial rfl (by omega) (sorts_fence _) (enters_of Tryz.func107 (by kernel_rfl) rfl) 108 #[.pointer (some ⟨w.heap.size, 0, none⟩)] trivial (enters_of Tryz.func108 (by kernel_rfl) rfl) _ _ (by rw [hsz, max_is]; omega) (by rw [hsz]; omega) _ hseq
  change CallsIn _ _ Tryz.prog 92 _ _ _ at cS
  refine ((callsIn_wide (n := 5)).1 cS).mono ?_
  rintro e w' ⟨v, ss, rfl, hS, hrow, hnil, hbw⟩
  exact ⟨v, ss, rfl, hS.trans hperm, ownsRow_base_a hrow (by simp), hnil, ((Below.refl _ w).alloc (Nat.le_refl _) _).trans (hbw.mono (by simp))⟩
end Go.Proofs.YtffcpmohanhihaaGreatDoor
