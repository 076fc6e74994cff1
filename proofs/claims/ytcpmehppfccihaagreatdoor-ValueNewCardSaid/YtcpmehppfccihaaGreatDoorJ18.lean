/-
  Trees alike are judged, counted, measured alike. No condition.
  Few nodes, few parts; what a call of spoil leaves. No condition.
-/
import Derived.Test.YtcpmehppfccihaaGreatDoorJ7
import Derived.Test.YtcpmehppfccihaaGreatDoorJ10
import Derived.Test.YtcpmehppfccihaaGreatDoorVSizeJ
import Derived.Test.YtcpmehppfccihaaGreatDoorJ20
namespace Go.Proofs.YtcpmehppfccihaaGreatDoor
set_option linter.unusedVariables false
set_option linter.unusedSimpArgs false
theorem ba_eq {a b : ByteArray} (h : a.toList = b.toList) : a = b := by
  rw [Lib.toList_data, Lib.toList_data] at h
  cases a with | mk a => cases b with | mk b => exact congrArg ByteArray.mk (Array.toList_inj.1 h)
/-- What likeness says, strings as they are. -/
theorem sameV_parts {a b : VT} (h : sameV a b = true) : a.k = b.k ∧ a.n = b.n ∧ a.ln = b.ln ∧ a.mn = b.mn ∧ a.s = b.s ∧ (∀ i, i < a.ln → sameV (a.lt i) (b.lt i) = true) ∧ (∀ i, i < a.mn → a.key i = b.key i ∧ sameV (a.mt i) (b.mt i) = true) := by
  obtain ⟨h1, h2, h3, h4, h5, h6, h7⟩ := (sameV_iff a b).1 h
  exact ⟨h1, h2, h3, h4, ba_eq h5, h6, fun i hi => ⟨ba_eq (h7 i hi).1, (h7 i hi).2⟩⟩
theorem VT.by_parts {p : VT → Prop} (key : ∀ t : VT, (∀ i, i < t.ln → p (t.lt i)) → (∀ i, i < t.mn → p (t.mt i)) → p t) (t : VT) : p t := by
  induction t with
  | no => exact key .no (fun i hi => absurd hi (Nat.not_lt_zero i)) (fun i hi => absurd hi (Nat.not_lt_zero i))
  | mk k n s lA lb lo ln lc lt mA mb mo mn mc ky mt ihl ihm => exact key (.mk k n s lA lb lo ln lc lt mA mb mo mn mc ky mt) (fun i _ => ihl i) (fun i _ => ihm i)
theorem sumTo_congr {f g : Nat → Int} {n : Nat} {a : Int} (h : ∀ i, i < n → f i = g i) : sumTo f n a = sumTo g n a := by
  induction n with
  | zero => rfl
  | succ n ih => rw [sumTo, sumTo, ih (fun i hi => h i (by omega)), h n (by omega)]
theorem mostTo_congr {f g : Nat → Int} {n : Nat} {a : Int} (h : ∀ i, i < n → f i = g i) : mostTo f n a = mostTo g n a := by
  induction n with
  | zero => rfl
  | succ n ih => rw [mostTo, mostTo, ih (fun i hi => h i (by omega)), h n (by omega)]
theorem sizeW_same {a : VT} : ∀ {b : VT}, sameV a b = true → sizeW a = sizeW b := by
  refine VT.by_parts (p := fun a => ∀ {b : VT}, sameV a b = true → sizeW a = sizeW b) (fun a ihl ihm b h => ?_) a
  obtain ⟨h1, h2, h3, h4, h5, h6, h7⟩ := sameV_parts h
  rw [sizeW_eq a, sizeW_eq b, ← h3, ← h4, sumTo_congr (fun i hi => ihl i hi (h6 i hi)), sumTo_congr (fun i hi => ihm i hi (h7 i hi).2)]
theorem deepW_same {a : VT} : ∀ {b : VT}, sameV a b = true → deepW a = deepW b := by
  refine VT.by_parts (p := fun a => ∀ {b : VT}, sameV a b = true → deepW a = deepW b) (fun a ihl ihm b h => ?_) a
  obtain ⟨h1, h2, h3, h4, h5, h6, h7⟩ := sameV_parts h
  rw [deepW_eq a, deepW_eq b, ← h3, ← h4, mostTo_congr (fun i hi => ihl i hi (h6 i hi)), mostTo_congr (fun i hi => ihm i hi (h7 i hi).2)]
theorem runTo_congr {p q : Nat → Int → Bool × Int} {n : Nat} {m : Int} (h : ∀ i, i < n → ∀ m, p i m = q i m) : runTo p n m = runTo q n m := by
  induction n with
  | zero => rfl
  | succ n ih => rw [runTo, runTo, ih (fun i hi => h i (by omega)), h n (by omega)]
theorem judgeT_same {ob : VT → Bool} {letC : ByteArray → Int} (hob : ∀ a b, sameV a b = true → ob a = ob b) {a : VT} : ∀ {b : VT}, sameV a b = true → ∀ deep n0, judgeT ob letC a deep n0 = judgeT ob letC b deep n0 := by
  refine VT.by_parts (p := fun a => ∀ {b : VT}, sameV a b = true → ∀ deep n0, judgeT ob letC a deep n0 = judgeT ob letC b deep n0) (fun a ihl ihm b h deep n0 => ?_) a
  obtain ⟨h1, h2, h3, h4, h5, h6, h7⟩ := sameV_parts h
  have e1 : ∀ m, runTo (judgeL ob letC a deep) a.ln m = runTo (judgeL ob letC b deep) a.ln m := fun m => runTo_congr (fun i hi m => ihl i hi (h6 i hi) _ _)
  have e2 : ∀ m, runTo (judgeM ob letC a deep) a.mn m = runTo (judgeM ob letC b deep) a.mn m := fun m => runTo_congr (fun i hi m => by
    unfold judgeM
    rw [(h7 i hi).1, ihm i hi (h7 i hi).2]
    rcases Nat.eq_zero_or_pos i with h0 | h0
    · subst h0; simp
    · rw [(h7 (i - 1) (by omega)).1])
  rw [judgeT_eq ob letC a, judgeT_eq ob letC b, hob a b h, ← h3, ← h4, e1, e2]
theorem ownV_same (a b : VT) (h : sameV a b = true) : ownV a = ownV b := by
  obtain ⟨h1, h2, h3, h4, h5, h6, h7⟩ := sameV_parts h
  unfold ownV ownB
  rw [h1, h2, h3, h4, h5]
theorem goodT_same {a b : VT} (h : sameV a b = true) : goodT a = goodT b := by
  unfold goodT
  rw [judgeT_same ownV_same h]
theorem sameB_of {num : ByteArray → ByteArray → Bool} {a : VT} : ∀ {b : VT}, sameV a b = true → sameB num a b = true := by
  refine VT.by_parts (p := fun a => ∀ {b : VT}, sameV a b = true → sameB num a b = true) (fun a ihl ihm b h => ?_) a
  obtain ⟨h1, h2, h3, h4, h5, h6, h7⟩ := sameV_parts h
  rw [sameB_eq]
  simp only [Bool.and_eq_true, beq_iff_eq, allTo_iff, Bool.or_eq_true]
  exact ⟨⟨⟨⟨⟨⟨h1, h2⟩, h3⟩, h4⟩, Or.inl (by rw [h5])⟩, fun i hi => ihl i hi (h6 i hi)⟩, fun i hi => ⟨by rw [(h7 i hi).1], ihm i hi (h7 i hi).2⟩⟩
theorem sameV_comm (a b : VT) : sameV a b = sameV b a := by
  cases h : sameV a b with
  | true => exact (sameV_symm h).symm
  | false =>
    cases h2 : sameV b a with
    | true => rw [sameV_symm h2] at h; cases h
    | false => rfl
end Go.Proofs.YtcpmehppfccihaaGreatDoor
namespace Go.Proofs.YtcpmehppfccihaaGreatDoor
open Go.RowKit
set_option linter.unusedVariables false
set_option linter.unusedSimpArgs false
theorem foldO_cnt {p : Nat → Int → Option Int} (hp : ∀ i m m', 0 ≤ m → p i m = some m' → 0 ≤ m' ∧ m' + 1 ≤ m) (k : Nat) : ∀ (n m : Int), 0 ≤ n → foldO p k n = some m → 0 ≤ m ∧ m + k ≤ n := by
  induction k with
  | zero => intro n m hn h; rw [foldO, Option.some.injEq] at h; omega
  | succ k ih =>
    intro n m hn h
    rw [foldO] at h
    obtain ⟨m1, h1, h2⟩ := Option.bind_eq_some_iff.1 h
    have := ih n m1 hn h1
    have := hp k m1 m this.1 h2
    omega
theorem foldO_at {p : Nat → Int → Option Int} {k : Nat} {n m : Int} (h : foldO p k n = some m) {i : Nat} (hi : i < k) : ∃ m1 m2, foldO p i n = some m1 ∧ p i m1 = some m2 := by
  induction k generalizing m with
  | zero => omega
  | succ k ih =>
    rw [foldO] at h
    obtain ⟨m1, h1, h2⟩ := Option.bind_eq_some_iff.1 h
    rcases Nat.lt_or_ge i k with hik | hik
    · exact ih h1 hik
    · obtain rfl : i = k := by omega
      exact ⟨m1, m, h1, h2⟩
theorem heavy_one {t : VT} {d n m : Int} (h : heavyT t d n = some m) : 0 ≤ m ∧ m + 1 ≤ n := by
  rw [heavyT_eq] at h
  split at h
  · cases h
  · rename_i h1
    have h2 : 1 ≤ n := by simp at h1; omega
    obtain ⟨m1, a, b⟩ := Option.bind_eq_some_iff.1 h
    have := foldO_bd (p := hvL t d) (fun i m m' _ hh => heavy_bd _ _ _ _ hh) t.ln _ _ (by omega) a
    have := foldO_bd (p := hvM t d) (fun i m m' _ hh => heavy_bd _ _ _ _ hh) t.mn _ _ this.1 b
    omega
theorem heavy_sm {t : VT} : ∀ {d n m : Int}, n ≤ 100000 → heavyT t d n = some m → VT.Sm t := by
  refine VT.by_parts (p := fun t => ∀ {d n m : Int}, n ≤ 100000 → heavyT t d n = some m → VT.Sm t) (fun t ihl ihm d n m hn h => ?_) t
  rw [heavyT_eq] at h
  split at h
  · cases h
  · rename_i h1
    have h2 : 1 ≤ n := by simp at h1; omega
    obtain ⟨m1, a, b⟩ := Option.bind_eq_some_iff.1 h
    have k1 := foldO_cnt (p := hvL t d) (fun i m m' _ hh => heavy_one hh) t.ln _ _ (by omega) a
    have k2 := foldO_cnt (p := hvM t d) (fun i m m' _ hh => heavy_one hh) t.mn _ _ k1.1 b
    refine .mk (by omega) (by omega) (fun i hi => ?_) (fun i hi => ?_)
    · obtain ⟨x, y, e1, e2⟩ := foldO_at a hi
      have := foldO_bd (p := hvL t d) (fun i m m' _ hh => heavy_bd _ _ _ _ hh) i _ _ (by omega) e1
      exact ihl i hi (by omega) e2
    · obtain ⟨x, y, e1, e2⟩ := foldO_at b hi
      have := foldO_bd (p := hvM t d) (fun i m m' _ hh => heavy_bd _ _ _ _ hh) i _ _ k1.1 e1
      exact ihm i hi (by omega) e2
theorem heavyB_sm {t : VT} {n d : Int} (hn : n ≤ 100000) (h : heavyB t n d = false) : VT.Sm t := by
  unfold heavyB at h
  obtain ⟨m, hm⟩ := Option.isSome_iff_exists.1 (show (heavyT t d n).isSome = true by cases hq : heavyT t d n <;> simp_all)
  exact heavy_sm hn hm
/-- A tree of one's own between two marks. -/
structure Own3 (lo hi : Nat) (t : VT) (W : World) : Prop where
  tin : VT.In W.heap.size W t
  free : VT.Free W t
  at_ : VT.At (fun b => lo ≤ b ∧ b < hi) t
theorem own3_of {B : Nat} {x y : VT} {W : World} (h : Cop B x y W) : Own3 B W.heap.size y W := ⟨h.tin, h.free, h.at_.and h.tin.at_⟩
theorem Own3.move {lo hi : Nat} {t : VT} {W W' : World} (h : Own3 lo hi t W) (hb : Below hi W W') : Own3 lo hi t W' :=
  ⟨(h.tin.keep h.at_ (fun b hb' => hb.block b hb'.2)).up hb.size, h.free.keep h.at_ (fun b hb' => hb.block b hb'.2), h.at_⟩
theorem Own3.spoilt {lo hi lo' hi' : Nat} {t t' : VT} {W W' : World} (h : Own3 lo hi t W) (h' : VT.At (fun b => lo' ≤ b ∧ b < hi') t') (hs : Spoilt t' W W') (hd : hi ≤ lo' ∨ hi' ≤ lo) : Own3 lo hi t W' := by
  have hat := h.at_.and h.tin.at_
  have key : ∀ b, ((lo ≤ b ∧ b < hi) ∧ b < W.heap.size) → W'.heap[b]? = W.heap[b]? := fun b hb => hs.rest b hb.2 (fun hi => by have := hi _ h'; omega)
  exact ⟨(h.tin.keep hat key).up hs.size, h.free.keep hat key, h.at_⟩
theorem spoilt_row {lo' hi' b : Nat} {t' : VT} {W W' : World} {o : Obj} (h' : VT.At (fun b => lo' ≤ b ∧ b < hi') t') (hs : Spoilt t' W W') (hd : b < lo' ∨ hi' ≤ b) (hr : W.heap[b]? = some o) : W'.heap[b]? = some o :=
  (hs.rest b (Array.getElem?_eq_some_iff.1 hr).1 (fun hi => by have := hi _ h'; omega)).trans hr
theorem spoilt_below {lo' hi' B : Nat} {t' : VT} {W W' : World} (h' : VT.At (fun b => lo' ≤ b ∧ b < hi') t') (hs : Spoilt t' W W') (hB : B ≤ lo') (hW : B ≤ W.heap.size) : Below B W W' :=
  hs.below (h'.imp fun b hb => by omega) hW
end Go.Proofs.YtcpmehppfccihaaGreatDoor
