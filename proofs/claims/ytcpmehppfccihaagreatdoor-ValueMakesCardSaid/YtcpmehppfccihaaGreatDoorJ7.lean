/-
  When two trees are alike, in plain Lean. No condition.
  Likeness of trees: of each with itself, both ways, from one to another. No condition.
  Cells and values, in plain Lean: what a cell says, how a value is written; what was written is read back. No condition.
  value.Size, value.Deep tell what is written here, for all trees. No condition.
  Trees alike are judged, counted, measured alike. No condition.
-/
import Derived.Test.YtcpmehppfccihaaGreatDoorJ6
import Derived.Test.YtcpmehppfccihaaGreatDoorJ10
import Derived.Test.YtcpmehppfccihaaGreatDoorRowPartJ
namespace Go.Proofs.YtcpmehppfccihaaGreatDoor
open Go.RowKit
set_option linter.unusedVariables false
set_option linter.unusedSimpArgs false
def sameB (num : ByteArray → ByteArray → Bool) : VT → VT → Bool
  | .no, b => (0 : Int) == b.k && (0 : Int) == b.n && 0 == b.ln && 0 == b.mn && ((⟨#[]⟩ : ByteArray).toList == b.s.toList)
  | .mk k n s _ _ _ ln _ lt _ _ _ mn _ key mt, b => k == b.k && n == b.n && ln == b.ln && mn == b.mn && (s.toList == b.s.toList || k == 3 && num s b.s) &&
      allTo (fun i => sameB num (lt i) (b.lt i)) ln && allTo (fun i => (key i).toList == (b.key i).toList && sameB num (mt i) (b.mt i)) mn
theorem sameB_eq (num : ByteArray → ByteArray → Bool) (a b : VT) : sameB num a b = (a.k == b.k && a.n == b.n && a.ln == b.ln && a.mn == b.mn && (a.s.toList == b.s.toList || a.k == 3 && num a.s b.s) &&
      allTo (fun i => sameB num (a.lt i) (b.lt i)) a.ln && allTo (fun i => (a.key i).toList == (b.key i).toList && sameB num (a.mt i) (b.mt i)) a.mn) := by
  cases a with
  | no => simp [sameB, VT.k, VT.n, VT.s, VT.ln, VT.mn, allTo]
  | mk => rfl
def nev (_ _ : ByteArray) : Bool := false
def sameV (a b : VT) : Bool := sameB nev a b
end Go.Proofs.YtcpmehppfccihaaGreatDoor
namespace Go.Proofs.YtcpmehppfccihaaGreatDoor
set_option linter.unusedVariables false
set_option linter.unusedSimpArgs false
theorem sameV_eq (a b : VT) : sameV a b = (a.k == b.k && a.n == b.n && a.ln == b.ln && a.mn == b.mn && (a.s.toList == b.s.toList) &&
      allTo (fun i => sameV (a.lt i) (b.lt i)) a.ln && allTo (fun i => (a.key i).toList == (b.key i).toList && sameV (a.mt i) (b.mt i)) a.mn) := by
  unfold sameV
  rw [sameB_eq]
  simp [nev]
theorem sameV_iff (a b : VT) : sameV a b = true ↔ a.k = b.k ∧ a.n = b.n ∧ a.ln = b.ln ∧ a.mn = b.mn ∧ a.s.toList = b.s.toList ∧ (∀ i, i < a.ln → sameV (a.lt i) (b.lt i) = true) ∧ (∀ i, i < a.mn → (a.key i).toList = (b.key i).toList ∧ sameV (a.mt i) (b.mt i) = true) := by
  rw [sameV_eq]
  simp only [Bool.and_eq_true, beq_iff_eq, allTo_iff]
  constructor
  · rintro ⟨⟨⟨⟨⟨⟨h1, h2⟩, h3⟩, h4⟩, h5⟩, h6⟩, h7⟩
    exact ⟨h1, h2, h3, h4, h5, h6, h7⟩
  · rintro ⟨h1, h2, h3, h4, h5, h6, h7⟩
    exact ⟨⟨⟨⟨⟨⟨h1, h2⟩, h3⟩, h4⟩, h5⟩, h6⟩, h7⟩
theorem sameV_self (t : VT) : sameV t t = true := by
  induction t with
  | no => rw [sameV_iff]; exact ⟨rfl, rfl, rfl, rfl, rfl, fun i hi => absurd hi (Nat.not_lt_zero i), fun i hi => absurd hi (Nat.not_lt_zero i)⟩
  | mk k n s lA lb lo ln lc lt mA mb mo mn mc key mt ihl ihm =>
    rw [sameV_iff]
    exact ⟨rfl, rfl, rfl, rfl, rfl, fun i _ => ihl i, fun i _ => ⟨rfl, ihm i⟩⟩
theorem sameV_symm {a : VT} : ∀ {b : VT}, sameV a b = true → sameV b a = true := by
  have key : ∀ a : VT, (∀ i, i < a.ln → ∀ b, sameV (a.lt i) b = true → sameV b (a.lt i) = true) → (∀ i, i < a.mn → ∀ b, sameV (a.mt i) b = true → sameV b (a.mt i) = true) → ∀ b, sameV a b = true → sameV b a = true := by
    intro a ihl ihm b h
    rw [sameV_iff] at h ⊢
    obtain ⟨h1, h2, h3, h4, h5, h6, h7⟩ := h
    exact ⟨h1.symm, h2.symm, h3.symm, h4.symm, h5.symm, fun i hi => ihl i (by omega) _ (h6 i (by omega)), fun i hi => ⟨(h7 i (by omega)).1.symm, ihm i (by omega) _ (h7 i (by omega)).2⟩⟩
  induction a with
  | no => exact fun {b} => key .no (fun i hi => absurd hi (Nat.not_lt_zero i)) (fun i hi => absurd hi (Nat.not_lt_zero i)) b
  | mk k n s lA lb lo ln lc lt mA mb mo mn mc ky mt ihl ihm => exact fun {b} => key (.mk k n s lA lb lo ln lc lt mA mb mo mn mc ky mt) (fun i _ b h => @ihl i b h) (fun i _ b h => @ihm i b h) b
theorem sameV_trans {a : VT} : ∀ {b c : VT}, sameV a b = true → sameV b c = true → sameV a c = true := by
  have key : ∀ a : VT, (∀ i, i < a.ln → ∀ b c, sameV (a.lt i) b = true → sameV b c = true → sameV (a.lt i) c = true) → (∀ i, i < a.mn → ∀ b c, sameV (a.mt i) b = true → sameV b c = true → sameV (a.mt i) c = true) → ∀ b c, sameV a b = true → sameV b c = true → sameV a c = true := by
    intro a ihl ihm b c h k
    rw [sameV_iff] at h k ⊢
    obtain ⟨h1, h2, h3, h4, h5, h6, h7⟩ := h
    obtain ⟨k1, k2, k3, k4, k5, k6, k7⟩ := k
    exact ⟨h1.trans k1, h2.trans k2, h3.trans k3, h4.trans k4, h5.trans k5, fun i hi => ihl i hi _ _ (h6 i hi) (k6 i (by omega)), fun i hi => ⟨(h7 i hi).1.trans (k7 i (by omega)).1, ihm i hi _ _ (h7 i hi).2 (k7 i (by omega)).2⟩⟩
  induction a with
  | no => exact fun {b c} => key .no (fun i hi => absurd hi (Nat.not_lt_zero i)) (fun i hi => absurd hi (Nat.not_lt_zero i)) b c
  | mk k n s lA lb lo ln lc lt mA mb mo mn mc ky mt ihl ihm => exact fun {b c} => key (.mk k n s lA lb lo ln lc lt mA mb mo mn mc ky mt) (fun i _ b c h k => @ihl i b c h k) (fun i _ b c h k => @ihm i b c h k) b c
end Go.Proofs.YtcpmehppfccihaaGreatDoor
namespace Go.Proofs.YtcpmehppfccihaaGreatDoor
set_option linter.unusedVariables false
set_option linter.unusedSimpArgs false
/-- The value that a number's text says. -/
def numT (s : ByteArray) : VT := if (intN s.data.toList).isSome = true then VT.leaf 2 ((intN s.data.toList).getD 0) ⟨#[]⟩ else VT.leaf 3 0 s
def strR (s : ByteArray) : VT × Int := if letC s == 0 then (VT.leaf 4 0 s, 0) else (.no, letC s)
def stampR (s : ByteArray) : VT × Int := if stampB s then (VT.leaf 7 0 s, 0) else (.no, 4)
def unq (s : ByteArray) : ByteArray := ⟨(Lib.trimPrefix s.data.toList [39]).toArray⟩
/-- What a cell says, and the error. -/
def cellV (s : ByteArray) : VT × Int :=
  if s.data.toList = [] then (.no, 9)
  else if s.data.toList = [110, 117, 108, 108] then (.no, 0)
  else if s.data.toList = [116, 114, 117, 101] then (VT.leaf 1 1 ⟨#[]⟩, 0)
  else if s.data.toList = [102, 97, 108, 115, 101] then (VT.leaf 1 0 ⟨#[]⟩, 0)
  else if s.data.toList = [91, 93] then (VT.leaf 5 0 ⟨#[]⟩, 0)
  else if s.data.toList = [123, 125] then (VT.leaf 6 0 ⟨#[]⟩, 0)
  else if goodN s.data.toList = true then (numT s, 0)
  else if s.data.toList.head? = some 64 then stampR (s.extract 1 s.size)
  else strR (unq s)
/-- Must a string be quoted in a cell? -/
def quotB (s : ByteArray) : Bool :=
  s.toList == [] || decide (s.data.toList.head? = some 39) || decide (s.data.toList.head? = some 64) || (cellV s).2 != 0 || (cellV s).1.k != 4 || !((cellV s).1.s.toList == s.toList)
def quo (s : ByteArray) : ByteArray := ⟨#[39]⟩ ++ s
def atS (s : ByteArray) : ByteArray := ⟨#[64]⟩ ++ s
def textS (s : ByteArray) : ByteArray := if quotB s then quo s else s
/-- A value's cell, and whether it has one. -/
def textV (t : VT) : ByteArray × Bool :=
  if decide (t.ln + t.mn > 0) || !goodT t then (⟨#[]⟩, false)
  else if t.k = 0 then (⟨#[110, 117, 108, 108]⟩, true)
  else if t.k = 1 then (if t.n = 1 then (⟨#[116, 114, 117, 101]⟩, true) else (⟨#[102, 97, 108, 115, 101]⟩, true))
  else if t.k = 2 then (⟨(Lib.itoa t.n).toArray⟩, true)
  else if t.k = 3 then (t.s, true)
  else if t.k = 7 then (atS t.s, true)
  else if t.k = 5 then (⟨#[91, 93]⟩, true)
  else if t.k = 6 then (⟨#[123, 125]⟩, true)
  else (textS t.s, true)
end Go.Proofs.YtcpmehppfccihaaGreatDoor
namespace Go.Proofs.YtcpmehppfccihaaGreatDoor
open Go.RowKit
set_option linter.unusedVariables false
set_option linter.unusedSimpArgs false
set_option linter.unusedSectionVars false
def sumTo (f : Nat → Int) : Nat → Int → Int
  | 0, a => a
  | k + 1, a => wrap64 (sumTo f k a + f k)
def mostTo (f : Nat → Int) : Nat → Int → Int
  | 0, a => a
  | k + 1, a => if mostTo f k a < f k then f k else mostTo f k a
def sizeW : VT → Int
  | .no => 1
  | .mk _ _ _ _ _ _ ln _ lt _ _ _ mn _ _ mt => sumTo (fun i => sizeW (mt i)) mn (sumTo (fun i => sizeW (lt i)) ln 1)
theorem sizeW_eq (t : VT) : sizeW t = sumTo (fun i => sizeW (t.mt i)) t.mn (sumTo (fun i => sizeW (t.lt i)) t.ln 1) := by cases t <;> rfl
def deepW : VT → Int
  | .no => 1
  | .mk _ _ _ _ _ _ ln _ lt _ _ _ mn _ _ mt => wrap64 (mostTo (fun i => deepW (mt i)) mn (mostTo (fun i => deepW (lt i)) ln 0) + 1)
theorem deepW_eq (t : VT) : deepW t = wrap64 (mostTo (fun i => deepW (t.mt i)) t.mn (mostTo (fun i => deepW (t.lt i)) t.ln 0) + 1) := by
  cases t with
  | no => show (1 : Int) = wrap64 (0 + 1); unfold wrap64; omega
  | mk => rfl
theorem Sees.less {w0 W : World} {L L' : List (Nat × Obj)} (h : Sees w0 W L) (hs : ∀ p ∈ L', p ∈ L) : Sees w0 W L' := ⟨h.below, fun p hp => h.rows p (hs p hp)⟩
theorem VT.pc_val (t : VT) (i : Nat) : ∀ (j : Nat) (v : Value), (t.mt i).c[j]? = some v → (t.pc i)[1 + j]? = some v := by
  intro j v hv
  rw [show 1 + j = j + 1 by omega, ← hv]
  simp [VT.pc, VT.c]
def SizeOk (t : VT) : Prop := ∀ (w : World), VT.In w.heap.size w t → Calls Tryz.prog 34 #[.agg t.c] w fun e w' => e = .returned (.int .i64 (sizeW t)) ∧ Below w.heap.size w w'
def DeepOk (t : VT) : Prop := ∀ (w : World), VT.In w.heap.size w t → Calls Tryz.prog 33 #[.agg t.c] w fun e w' => e = .returned (.int .i64 (deepW t)) ∧ Below w.heap.size w w'
set_option maxRecDepth 100000 in
set_option maxHeartbeats 4000000 in
theorem vsize_go (t : VT) (w : World) (ht : VT.In w.heap.size w t) (ihl : ∀ i, i < t.ln → SizeOk (t.lt i)) (ihm : ∀ i, i < t.mn → SizeOk (t.mt i)) : Calls Tryz.prog 34 #[.agg t.c] w fun e w' => e = .returned (.int .i64 (sizeW t)) ∧ Below w.heap.size w w' := by
  have hh : Hid (sizeW t = sumTo (fun i => sizeW (t.mt i)) t.mn (sumTo (fun i => sizeW (t.lt i)) t.ln 1)) := sizeW_eq t
  have IL := Lib.hid ihl
  have IM := Lib.hid ihm
  clear ihl ihm
  have a3 : t.c[3]? = some (.slice t.lA t.ln t.lc) := rfl
  have a4 : t.c[4]? = some (.slice t.mA t.mn t.mc) := rfl
  have HA := ht.here
  have hll := HA.ll
  have hml := HA.ml
  have HT := Lib.hid ht
  clear ht
  have hS0 : Sees w (w.alloc (Obj.cells t.c 27)) [(w.heap.size, Obj.cells t.c 27)] := (Sees.start w).alloc _
  go_enter Tryz.func34, Tryz.ntmps34
  go_wp2_with go_skip
  go_loopw [3, 11] (fun nv iv wr => ∃ i : Nat, i ≤ t.ln ∧ iv = .int .i64 (i : Int) ∧ nv = .int .i64 (sumTo (fun i => sizeW (t.lt i)) i 1) ∧ Sees w wr [(w.heap.size, Obj.cells t.c 27)]) (fun _ iv _ => t.ln - (intOf iv).toNat)
  case atStart => exact ⟨0, Nat.zero_le _, rfl, rfl, hS0⟩
  case round =>
    rename_i wr
    obtain ⟨i, hi, rfl, rfl, hS⟩ := hrel
    by_cases hlt : i < t.ln
    · have hltb : decide ((i : Int) < t.ln) = true := by simp; omega
      have xa := HA.lix hlt
      have LA := Lib.hid ((HA.move (hS.below)).lcell i hlt)
      have HK := Lib.hid (fun W (hb : Below w.heap.size w W) => IL.out i hlt W (((HT.out.l i hlt).move hb).up hb.size))
      have hnx : Hid (sumTo (fun i => sizeW (t.lt i)) (i + 1) 1 = wrap64 (sumTo (fun i => sizeW (t.lt i)) i 1 + sizeW (t.lt i))) := rfl
      generalize sizeW (t.lt i) = x at *
      generalize sumTo (fun i => sizeW (t.lt i)) i 1 = y at *
      go_wp2_with (first | go_skip | (refine load_cells rfl 27 (.tmp 13) rfl _ _ rfl _ _ LA.out Tryz.underlying27 rfl (VT.val_info _) ?_) | (refine wpList_store_row rfl 27 (.tmp 5) (.tmp 14) rfl _ (t.lt i).c rfl rfl 27 _ (heap_alloc_new _ _) (VT.val_info _) rfl (VT.c_one _) ?_; intro wn hbn hgn hon hsn; have hS1 := hS.box hon hbn hgn; clear hS hbn hgn hon hsn; have hS := hS1; clear hS1; skip) | (refine wpList_load_row' rfl 27 (.tmp 5) rfl _ rfl 27 _ (0, 0) _ hS.g1 Tryz.underlying27 rfl (VT.val_info _) ?_) | (go_at_call 34; with_reducible (refine (HK.out _ hS.below).mono ?_); rintro e wn ⟨rfl, hbn⟩; have hS1 := hS.step hbn; clear hS hbn; have hS := hS1; clear hS1))
      go_roundw
      case rel => exact ⟨i + 1, by omega, by go_num, (by rw [hnx.out]; try first | rfl | (congr 1; (repeat' split) <;> first | rfl | omega)), hS.less (fun p hp => by cases List.mem_singleton.1 hp; exact List.mem_cons_self)⟩
      case measure => simp [intOf]; omega
    · have hge : decide ((i : Int) < t.ln) = false := by simp; omega
      obtain rfl : i = t.ln := by omega
      generalize hz : sumTo (fun i => sizeW (t.lt i)) t.ln 1 = z at *
      have hh := Lib.hid hh.out
      clear hz
      have c4 : wr.cell? ⟨w.heap.size, 4, none⟩ = some (.slice t.mA t.mn t.mc) := (cell_of_row _ _ _ _ _ _ hS.g0).trans a4
      go_wp2_with go_skip
      go_loopw [3, 23] (fun nv iv wr => ∃ i : Nat, i ≤ t.mn ∧ iv = .int .i64 (i : Int) ∧ nv = .int .i64 (sumTo (fun i => sizeW (t.mt i)) i z) ∧ Sees w wr [(w.heap.size, Obj.cells t.c 27)]) (fun _ iv _ => t.mn - (intOf iv).toNat)
      case atStart => exact ⟨0, Nat.zero_le _, rfl, rfl, hS⟩
      case round =>
        clear hS c4 hS0
        rename_i wr
        obtain ⟨i, hi, rfl, rfl, hS⟩ := hrel
        by_cases hlt : i < t.mn
        · have hltb : decide ((i : Int) < t.mn) = true := by simp; omega
          have xa := HA.mix hlt
          have LA := Lib.hid ((HA.move (hS.below)).mcell i hlt)
          have HK := Lib.hid (fun W (hb : Below w.heap.size w W) => IM.out i hlt W (((HT.out.m i hlt).move hb).up hb.size))
          have hnx : Hid (sumTo (fun i => sizeW (t.mt i)) (i + 1) z = wrap64 (sumTo (fun i => sizeW (t.mt i)) i z + sizeW (t.mt i))) := rfl
          generalize hx0 : sizeW (t.mt i) = x at *
          generalize sumTo (fun i => sizeW (t.mt i)) i z = y at *
          go_wp2_with (first | go_skip | (refine load_cells rfl 34 (.tmp 25) rfl _ _ rfl _ _ LA.out Tryz.underlying34 rfl (VT.pair_info _ _) ?_) | (refine wpList_store_row rfl 34 (.tmp 7) (.tmp 26) rfl _ (t.pc i) rfl rfl 34 _ (heap_alloc_new _ _) (VT.pair_info _ _) rfl (VT.pc_one _ _) ?_; intro wn hbn hgn hon hsn; have hS1 := hS.box hon hbn hgn; clear hS hbn hgn hon hsn; have hS := hS1; clear hS1; skip) | (refine load_part rfl 27 (.tmp 28) rfl _ 1 rfl _ _ (0, 0) _ _ hS.g1 (VT.pc_val t i) Tryz.underlying27 rfl (VT.val_info _) ?_) | (go_at_call 34; with_reducible (refine (HK.out _ hS.below).mono ?_); rintro e wn ⟨rfl, hbn⟩; have hS1 := hS.step hbn; clear hS hbn; have hS := hS1; clear hS1))
          go_roundw
          case rel => exact ⟨i + 1, by omega, by go_num, (by rw [hnx.out]; try first | rfl | (congr 1; (repeat' split) <;> first | rfl | omega)), hS.less (fun p hp => by cases List.mem_singleton.1 hp; exact List.mem_cons_self)⟩
          case measure => simp [intOf]; omega
        · have hge : decide ((i : Int) < t.mn) = false := by simp; omega
          obtain rfl : i = t.mn := by omega
          go_wp2_with go_skip
          go_ret
          exact ⟨congrArg (fun n => Ending.returned (Value.int .i64 n)) hh.out.symm, hS.below⟩
set_option maxRecDepth 100000 in
set_option maxHeartbeats 4000000 in
theorem vdeep_go (t : VT) (w : World) (ht : VT.In w.heap.size w t) (ihl : ∀ i, i < t.ln → DeepOk (t.lt i)) (ihm : ∀ i, i < t.mn → DeepOk (t.mt i)) : Calls Tryz.prog 33 #[.agg t.c] w fun e w' => e = .returned (.int .i64 (deepW t)) ∧ Below w.heap.size w w' := by
  have hh : Hid (deepW t = wrap64 (mostTo (fun i => deepW (t.mt i)) t.mn (mostTo (fun i => deepW (t.lt i)) t.ln 0) + 1)) := deepW_eq t
  have IL := Lib.hid ihl
  have IM := Lib.hid ihm
  clear ihl ihm
  have a3 : t.c[3]? = some (.slice t.lA t.ln t.lc) := rfl
  have a4 : t.c[4]? = some (.slice t.mA t.mn t.mc) := rfl
  have HA := ht.here
  have hll := HA.ll
  have hml := HA.ml
  have HT := Lib.hid ht
  clear ht
  have hS0 : Sees w (w.alloc (Obj.cells t.c 27)) [(w.heap.size, Obj.cells t.c 27)] := (Sees.start w).alloc _
  go_enter Tryz.func33, Tryz.ntmps33
  go_wp2_with go_skip
  go_loopw [3, 11] (fun nv iv wr => ∃ i : Nat, i ≤ t.ln ∧ iv = .int .i64 (i : Int) ∧ nv = .int .i64 (mostTo (fun i => deepW (t.lt i)) i 0) ∧ Sees w wr [(w.heap.size, Obj.cells t.c 27)]) (fun _ iv _ => t.ln - (intOf iv).toNat)
  case atStart => exact ⟨0, Nat.zero_le _, rfl, rfl, hS0⟩
  case round =>
    rename_i wr
    obtain ⟨i, hi, rfl, rfl, hS⟩ := hrel
    by_cases hlt : i < t.ln
    · have hltb : decide ((i : Int) < t.ln) = true := by simp; omega
      have xa := HA.lix hlt
      have LA := Lib.hid ((HA.move (hS.below)).lcell i hlt)
      have HK := Lib.hid (fun W (hb : Below w.heap.size w W) => IL.out i hlt W (((HT.out.l i hlt).move hb).up hb.size))
      have hnx : Hid (mostTo (fun i => deepW (t.lt i)) (i + 1) 0 = if mostTo (fun i => deepW (t.lt i)) i 0 < deepW (t.lt i) then deepW (t.lt i) else mostTo (fun i => deepW (t.lt i)) i 0) := rfl
      generalize deepW (t.lt i) = x at *
      generalize mostTo (fun i => deepW (t.lt i)) i 0 = y at *
      go_wp2_with (first | go_skip | (refine load_cells rfl 27 (.tmp 13) rfl _ _ rfl _ _ LA.out Tryz.underlying27 rfl (VT.val_info _) ?_) | (refine wpList_store_row rfl 27 (.tmp 5) (.tmp 14) rfl _ (t.lt i).c rfl rfl 27 _ (heap_alloc_new _ _) (VT.val_info _) rfl (VT.c_one _) ?_; intro wn hbn hgn hon hsn; have hS1 := hS.box hon hbn hgn; clear hS hbn hgn hon hsn; have hS := hS1; clear hS1; skip) | (refine wpList_load_row' rfl 27 (.tmp 5) rfl _ rfl 27 _ (0, 0) _ hS.g1 Tryz.underlying27 rfl (VT.val_info _) ?_) | (go_at_call 33; with_reducible (refine (HK.out _ hS.below).mono ?_); rintro e wn ⟨rfl, hbn⟩; have hS1 := hS.step hbn; clear hS hbn; have hS := hS1; clear hS1))
      go_roundw
      case rel => exact ⟨i + 1, by omega, by go_num, (by rw [hnx.out]; try first | rfl | (congr 1; (repeat' split) <;> first | rfl | omega)), hS.less (fun p hp => by cases List.mem_singleton.1 hp; exact List.mem_cons_self)⟩
      case measure => simp [intOf]; omega
    · have hge : decide ((i : Int) < t.ln) = false := by simp; omega
      obtain rfl : i = t.ln := by omega
      generalize hz : mostTo (fun i => deepW (t.lt i)) t.ln 0 = z at *
      have hh := Lib.hid hh.out
      clear hz
      have c4 : wr.cell? ⟨w.heap.size, 4, none⟩ = some (.slice t.mA t.mn t.mc) := (cell_of_row _ _ _ _ _ _ hS.g0).trans a4
      go_wp2_with go_skip
      go_loopw [3, 23] (fun nv iv wr => ∃ i : Nat, i ≤ t.mn ∧ iv = .int .i64 (i : Int) ∧ nv = .int .i64 (mostTo (fun i => deepW (t.mt i)) i z) ∧ Sees w wr [(w.heap.size, Obj.cells t.c 27)]) (fun _ iv _ => t.mn - (intOf iv).toNat)
      case atStart => exact ⟨0, Nat.zero_le _, rfl, rfl, hS⟩
      case round =>
        clear hS c4 hS0
        rename_i wr
        obtain ⟨i, hi, rfl, rfl, hS⟩ := hrel
        by_cases hlt : i < t.mn
        · have hltb : decide ((i : Int) < t.mn) = true := by simp; omega
          have xa := HA.mix hlt
          have LA := Lib.hid ((HA.move (hS.below)).mcell i hlt)
          have HK := Lib.hid (fun W (hb : Below w.heap.size w W) => IM.out i hlt W (((HT.out.m i hlt).move hb).up hb.size))
          have hnx : Hid (mostTo (fun i => deepW (t.mt i)) (i + 1) z = if mostTo (fun i => deepW (t.mt i)) i z < deepW (t.mt i) then deepW (t.mt i) else mostTo (fun i => deepW (t.mt i)) i z) := rfl
          generalize hx0 : deepW (t.mt i) = x at *
          generalize mostTo (fun i => deepW (t.mt i)) i z = y at *
          go_wp2_with (first | go_skip | (refine load_cells rfl 34 (.tmp 25) rfl _ _ rfl _ _ LA.out Tryz.underlying34 rfl (VT.pair_info _ _) ?_) | (refine wpList_store_row rfl 34 (.tmp 7) (.tmp 26) rfl _ (t.pc i) rfl rfl 34 _ (heap_alloc_new _ _) (VT.pair_info _ _) rfl (VT.pc_one _ _) ?_; intro wn hbn hgn hon hsn; have hS1 := hS.box hon hbn hgn; clear hS hbn hgn hon hsn; have hS := hS1; clear hS1; skip) | (refine load_part rfl 27 (.tmp 28) rfl _ 1 rfl _ _ (0, 0) _ _ hS.g1 (VT.pc_val t i) Tryz.underlying27 rfl (VT.val_info _) ?_) | (go_at_call 33; with_reducible (refine (HK.out _ hS.below).mono ?_); rintro e wn ⟨rfl, hbn⟩; have hS1 := hS.step hbn; clear hS hbn; have hS := hS1; clear hS1))
          go_roundw
          case rel => exact ⟨i + 1, by omega, by go_num, (by rw [hnx.out]; try first | rfl | (congr 1; (repeat' split) <;> first | rfl | omega)), hS.less (fun p hp => by cases List.mem_singleton.1 hp; exact List.mem_cons_self)⟩
          case measure => simp [intOf]; omega
        · have hge : decide ((i : Int) < t.mn) = false := by simp; omega
          obtain rfl : i = t.mn := by omega
          go_wp2_with go_skip
          go_ret
          exact ⟨congrArg (fun n => Ending.returned (Value.int .i64 n)) hh.out.symm, hS.below⟩
theorem vsize_v (t : VT) : SizeOk t := by
  have key : ∀ t : VT, (∀ i, i < t.ln → SizeOk (t.lt i)) → (∀ i, i < t.mn → SizeOk (t.mt i)) → SizeOk t := fun t ihl ihm w ht => vsize_go t w ht ihl ihm
  induction t with
  | no => exact key .no (fun i hi => absurd hi (Nat.not_lt_zero i)) (fun i hi => absurd hi (Nat.not_lt_zero i))
  | mk k n s lA lb lo ln lc lt mA mb mo mn mc ky mt ihl ihm => exact key (.mk k n s lA lb lo ln lc lt mA mb mo mn mc ky mt) (fun i _ => ihl i) (fun i _ => ihm i)
theorem vdeep_v (t : VT) : DeepOk t := by
  have key : ∀ t : VT, (∀ i, i < t.ln → DeepOk (t.lt i)) → (∀ i, i < t.mn → DeepOk (t.mt i)) → DeepOk t := fun t ihl ihm w ht => vdeep_go t w ht ihl ihm
  induction t with
  | no => exact key .no (fun i hi => absurd hi (Nat.not_lt_zero i)) (fun i hi => absurd hi (Nat.not_lt_zero i))
  | mk k n s lA lb lo ln lc lt mA mb mo mn mc ky mt ihl ihm => exact key (.mk k n s lA lb lo ln lc lt mA mb mo mn mc ky mt) (fun i _ => ihl i) (fun i _ => ihm i)
end Go.Proofs.YtcpmehppfccihaaGreatDoor
namespace Go.Proofs.YtcpmehppfccihaaGreatDoor
set_option linter.unusedVariables false
set_option linter.unusedSimpArgs false
theorem ba_eq {a b : ByteArray} (h : a.toList = b.toList) : a = b := by
  rw [Lib.toList_data, Lib.toList_data] at h
  cases a with | mk a => cases b with | mk b => exact congrArg ByteArray.mk (Array.toList_inj.1 h)
/-- What likeness says, strings as they are. -/
theorem sameV_parts {a b : VT} (h : sameV a b = true) : a.k = b.k ∧ a.n = b.n ∧ a.ln = b.ln ∧ a.mn = b.mn ∧ a.s = b.s ∧ (∀ i, i < a.ln → sameV (a.lt i) (b.lt i) = true) ∧ (∀ i, i < a.mn → a.key i = b.key i ∧ sameV (a.mt i) (b.mt i) = true) := by
  obtain ⟨h1, h2, h3, h4, h5, h6, h7⟩ := (sameV_iff a b).1 h
  exact ⟨h1, h2, h3, h4, ba_eq h5, h6, fun i hi => ⟨ba_eq (h7 i hi).1, (h7 i hi).2⟩⟩
theorem VT.by_parts {p : VT → Prop} (key : ∀ t : VT, (∀ i, i < t.ln → p (t.lt i)) → (∀ i, i < t.mn → p (t.mt i)) → p t) (t : VT) : p t := by
  induction t with
  | no => exact key .no (fun i hi => absurd hi (Nat.not_lt_zero i)) (fun i hi => absurd hi (Nat.not_lt_zero i))
  | mk k n s lA lb lo ln lc lt mA mb mo mn mc ky mt ihl ihm => exact key (.mk k n s lA lb lo ln lc lt mA mb mo mn mc ky mt) (fun i _ => ihl i) (fun i _ => ihm i)
theorem sumTo_congr {f g : Nat → Int} {n : Nat} {a : Int} (h : ∀ i, i < n → f i = g i) : sumTo f n a = sumTo g n a := by
  induction n with
  | zero => rfl
  | succ n ih => rw [sumTo, sumTo, ih (fun i hi => h i (by omega)), h n (by omega)]
theorem mostTo_congr {f g : Nat → Int} {n : Nat} {a : Int} (h : ∀ i, i < n → f i = g i) : mostTo f n a = mostTo g n a := by
  induction n with
  | zero => rfl
  | succ n ih => rw [mostTo, mostTo, ih (fun i hi => h i (by omega)), h n (by omega)]
theorem sizeW_same {a : VT} : ∀ {b : VT}, sameV a b = true → sizeW a = sizeW b := by
  refine VT.by_parts (p := fun a => ∀ {b : VT}, sameV a b = true → sizeW a = sizeW b) (fun a ihl ihm b h => ?_) a
  obtain ⟨h1, h2, h3, h4, h5, h6, h7⟩ := sameV_parts h
  rw [sizeW_eq a, sizeW_eq b, ← h3, ← h4, sumTo_congr (fun i hi => ihl i hi (h6 i hi)), sumTo_congr (fun i hi => ihm i hi (h7 i hi).2)]
theorem deepW_same {a : VT} : ∀ {b : VT}, sameV a b = true → deepW a = deepW b := by
  refine VT.by_parts (p := fun a => ∀ {b : VT}, sameV a b = true → deepW a = deepW b) (fun a ihl ihm b h => ?_) a
  obtain ⟨h1, h2, h3, h4, h5, h6, h7⟩ := sameV_parts h
  rw [deepW_eq a, deepW_eq b, ← h3, ← h4, mostTo_congr (fun i hi => ihl i hi (h6 i hi)), mostTo_congr (fun i hi => ihm i hi (h7 i hi).2)]
theorem runTo_congr {p q : Nat → Int → Bool × Int} {n : Nat} {m : Int} (h : ∀ i, i < n → ∀ m, p i m = q i m) : runTo p n m = runTo q n m := by
  induction n with
  | zero => rfl
  | succ n ih => rw [runTo, runTo, ih (fun i hi => h i (by omega)), h n (by omega)]
theorem judgeT_same {ob : VT → Bool} {letC : ByteArray → Int} (hob : ∀ a b, sameV a b = true → ob a = ob b) {a : VT} : ∀ {b : VT}, sameV a b = true → ∀ deep n0, judgeT ob letC a deep n0 = judgeT ob letC b deep n0 := by
  refine VT.by_parts (p := fun a => ∀ {b : VT}, sameV a b = true → ∀ deep n0, judgeT ob letC a deep n0 = judgeT ob letC b deep n0) (fun a ihl ihm b h deep n0 => ?_) a
  obtain ⟨h1, h2, h3, h4, h5, h6, h7⟩ := sameV_parts h
  have e1 : ∀ m, runTo (judgeL ob letC a deep) a.ln m = runTo (judgeL ob letC b deep) a.ln m := fun m => runTo_congr (fun i hi m => ihl i hi (h6 i hi) _ _)
  have e2 : ∀ m, runTo (judgeM ob letC a deep) a.mn m = runTo (judgeM ob letC b deep) a.mn m := fun m => runTo_congr (fun i hi m => by
    unfold judgeM
    rw [(h7 i hi).1, ihm i hi (h7 i hi).2]
    rcases Nat.eq_zero_or_pos i with h0 | h0
    · subst h0; simp
    · rw [(h7 (i - 1) (by omega)).1])
  rw [judgeT_eq ob letC a, judgeT_eq ob letC b, hob a b h, ← h3, ← h4, e1, e2]
theorem ownV_same (a b : VT) (h : sameV a b = true) : ownV a = ownV b := by
  obtain ⟨h1, h2, h3, h4, h5, h6, h7⟩ := sameV_parts h
  unfold ownV ownB
  rw [h1, h2, h3, h4, h5]
theorem goodT_same {a b : VT} (h : sameV a b = true) : goodT a = goodT b := by
  unfold goodT
  rw [judgeT_same ownV_same h]
theorem sameB_of {num : ByteArray → ByteArray → Bool} {a : VT} : ∀ {b : VT}, sameV a b = true → sameB num a b = true := by
  refine VT.by_parts (p := fun a => ∀ {b : VT}, sameV a b = true → sameB num a b = true) (fun a ihl ihm b h => ?_) a
  obtain ⟨h1, h2, h3, h4, h5, h6, h7⟩ := sameV_parts h
  rw [sameB_eq]
  simp only [Bool.and_eq_true, beq_iff_eq, allTo_iff, Bool.or_eq_true]
  exact ⟨⟨⟨⟨⟨⟨h1, h2⟩, h3⟩, h4⟩, Or.inl (by rw [h5])⟩, fun i hi => ihl i hi (h6 i hi)⟩, fun i hi => ⟨by rw [(h7 i hi).1], ihm i hi (h7 i hi).2⟩⟩
theorem sameV_comm (a b : VT) : sameV a b = sameV b a := by
  cases h : sameV a b with
  | true => exact (sameV_symm h).symm
  | false =>
    cases h2 : sameV b a with
    | true => rw [sameV_symm h2] at h; cases h
    | false => rfl
end Go.Proofs.YtcpmehppfccihaaGreatDoor
