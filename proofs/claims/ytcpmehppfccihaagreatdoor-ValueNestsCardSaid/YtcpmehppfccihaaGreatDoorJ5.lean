/-
  When two trees are alike, in plain Lean. No condition.
  Likeness of trees: of each with itself, both ways, from one to another. No condition.
  Cells and values, in plain Lean: what a cell says, how a value is written; what was written is read back. No condition.
-/
import Derived.Test.YtcpmehppfccihaaGreatDoorTreeJ
import Derived.Test.YtcpmehppfccihaaGreatDoorJ7
namespace Go.Proofs.YtcpmehppfccihaaGreatDoor
open Go.RowKit
set_option linter.unusedVariables false
set_option linter.unusedSimpArgs false
def sameB (num : ByteArray → ByteArray → Bool) : VT → VT → Bool
  | .no, b => (0 : Int) == b.k && (0 : Int) == b.n && 0 == b.ln && 0 == b.mn && ((⟨#[]⟩ : ByteArray).toList == b.s.toList)
  | .mk k n s _ _ _ ln _ lt _ _ _ mn _ key mt, b => k == b.k && n == b.n && ln == b.ln && mn == b.mn && (s.toList == b.s.toList || k == 3 && num s b.s) &&
      allTo (fun i => sameB num (lt i) (b.lt i)) ln && allTo (fun i => (key i).toList == (b.key i).toList && sameB num (mt i) (b.mt i)) mn
theorem sameB_eq (num : ByteArray → ByteArray → Bool) (a b : VT) : sameB num a b = (a.k == b.k && a.n == b.n && a.ln == b.ln && a.mn == b.mn && (a.s.toList == b.s.toList || a.k == 3 && num a.s b.s) &&
      allTo (fun i => sameB num (a.lt i) (b.lt i)) a.ln && allTo (fun i => (a.key i).toList == (b.key i).toList && sameB num (a.mt i) (b.mt i)) a.mn) := by
  cases a with
  | no => simp [sameB, VT.k, VT.n, VT.s, VT.ln, VT.mn, allTo]
  | mk => rfl
def nev (_ _ : ByteArray) : Bool := false
def sameV (a b : VT) : Bool := sameB nev a b
end Go.Proofs.YtcpmehppfccihaaGreatDoor
namespace Go.Proofs.YtcpmehppfccihaaGreatDoor
set_option linter.unusedVariables false
set_option linter.unusedSimpArgs false
theorem sameV_eq (a b : VT) : sameV a b = (a.k == b.k && a.n == b.n && a.ln == b.ln && a.mn == b.mn && (a.s.toList == b.s.toList) &&
      allTo (fun i => sameV (a.lt i) (b.lt i)) a.ln && allTo (fun i => (a.key i).toList == (b.key i).toList && sameV (a.mt i) (b.mt i)) a.mn) := by
  unfold sameV
  rw [sameB_eq]
  simp [nev]
theorem sameV_iff (a b : VT) : sameV a b = true ↔ a.k = b.k ∧ a.n = b.n ∧ a.ln = b.ln ∧ a.mn = b.mn ∧ a.s.toList = b.s.toList ∧ (∀ i, i < a.ln → sameV (a.lt i) (b.lt i) = true) ∧ (∀ i, i < a.mn → (a.key i).toList = (b.key i).toList ∧ sameV (a.mt i) (b.mt i) = true) := by
  rw [sameV_eq]
  simp only [Bool.and_eq_true, beq_iff_eq, allTo_iff]
  constructor
  · rintro ⟨⟨⟨⟨⟨⟨h1, h2⟩, h3⟩, h4⟩, h5⟩, h6⟩, h7⟩
    exact ⟨h1, h2, h3, h4, h5, h6, h7⟩
  · rintro ⟨h1, h2, h3, h4, h5, h6, h7⟩
    exact ⟨⟨⟨⟨⟨⟨h1, h2⟩, h3⟩, h4⟩, h5⟩, h6⟩, h7⟩
theorem sameV_self (t : VT) : sameV t t = true := by
  induction t with
  | no => rw [sameV_iff]; exact ⟨rfl, rfl, rfl, rfl, rfl, fun i hi => absurd hi (Nat.not_lt_zero i), fun i hi => absurd hi (Nat.not_lt_zero i)⟩
  | mk k n s lA lb lo ln lc lt mA mb mo mn mc key mt ihl ihm =>
    rw [sameV_iff]
    exact ⟨rfl, rfl, rfl, rfl, rfl, fun i _ => ihl i, fun i _ => ⟨rfl, ihm i⟩⟩
theorem sameV_symm {a : VT} : ∀ {b : VT}, sameV a b = true → sameV b a = true := by
  have key : ∀ a : VT, (∀ i, i < a.ln → ∀ b, sameV (a.lt i) b = true → sameV b (a.lt i) = true) → (∀ i, i < a.mn → ∀ b, sameV (a.mt i) b = true → sameV b (a.mt i) = true) → ∀ b, sameV a b = true → sameV b a = true := by
    intro a ihl ihm b h
    rw [sameV_iff] at h ⊢
    obtain ⟨h1, h2, h3, h4, h5, h6, h7⟩ := h
    exact ⟨h1.symm, h2.symm, h3.symm, h4.symm, h5.symm, fun i hi => ihl i (by omega) _ (h6 i (by omega)), fun i hi => ⟨(h7 i (by omega)).1.symm, ihm i (by omega) _ (h7 i (by omega)).2⟩⟩
  induction a with
  | no => exact fun {b} => key .no (fun i hi => absurd hi (Nat.not_lt_zero i)) (fun i hi => absurd hi (Nat.not_lt_zero i)) b
  | mk k n s lA lb lo ln lc lt mA mb mo mn mc ky mt ihl ihm => exact fun {b} => key (.mk k n s lA lb lo ln lc lt mA mb mo mn mc ky mt) (fun i _ b h => @ihl i b h) (fun i _ b h => @ihm i b h) b
theorem sameV_trans {a : VT} : ∀ {b c : VT}, sameV a b = true → sameV b c = true → sameV a c = true := by
  have key : ∀ a : VT, (∀ i, i < a.ln → ∀ b c, sameV (a.lt i) b = true → sameV b c = true → sameV (a.lt i) c = true) → (∀ i, i < a.mn → ∀ b c, sameV (a.mt i) b = true → sameV b c = true → sameV (a.mt i) c = true) → ∀ b c, sameV a b = true → sameV b c = true → sameV a c = true := by
    intro a ihl ihm b c h k
    rw [sameV_iff] at h k ⊢
    obtain ⟨h1, h2, h3, h4, h5, h6, h7⟩ := h
    obtain ⟨k1, k2, k3, k4, k5, k6, k7⟩ := k
    exact ⟨h1.trans k1, h2.trans k2, h3.trans k3, h4.trans k4, h5.trans k5, fun i hi => ihl i hi _ _ (h6 i hi) (k6 i (by omega)), fun i hi => ⟨(h7 i hi).1.trans (k7 i (by omega)).1, ihm i hi _ _ (h7 i hi).2 (k7 i (by omega)).2⟩⟩
  induction a with
  | no => exact fun {b c} => key .no (fun i hi => absurd hi (Nat.not_lt_zero i)) (fun i hi => absurd hi (Nat.not_lt_zero i)) b c
  | mk k n s lA lb lo ln lc lt mA mb mo mn mc ky mt ihl ihm => exact fun {b c} => key (.mk k n s lA lb lo ln lc lt mA mb mo mn mc ky mt) (fun i _ b c h k => @ihl i b c h k) (fun i _ b c h k => @ihm i b c h k) b c
end Go.Proofs.YtcpmehppfccihaaGreatDoor
namespace Go.Proofs.YtcpmehppfccihaaGreatDoor
set_option linter.unusedVariables false
set_option linter.unusedSimpArgs false
/-- The value that a number's text says. -/
def numT (s : ByteArray) : VT := if (intN s.data.toList).isSome = true then VT.leaf 2 ((intN s.data.toList).getD 0) ⟨#[]⟩ else VT.leaf 3 0 s
def strR (s : ByteArray) : VT × Int := if letC s == 0 then (VT.leaf 4 0 s, 0) else (.no, letC s)
def stampR (s : ByteArray) : VT × Int := if stampB s then (VT.leaf 7 0 s, 0) else (.no, 4)
def unq (s : ByteArray) : ByteArray := ⟨(Lib.trimPrefix s.data.toList [39]).toArray⟩
/-- What a cell says, and the error. -/
def cellV (s : ByteArray) : VT × Int :=
  if s.data.toList = [] then (.no, 9)
  else if s.data.toList = [110, 117, 108, 108] then (.no, 0)
  else if s.data.toList = [116, 114, 117, 101] then (VT.leaf 1 1 ⟨#[]⟩, 0)
  else if s.data.toList = [102, 97, 108, 115, 101] then (VT.leaf 1 0 ⟨#[]⟩, 0)
  else if s.data.toList = [91, 93] then (VT.leaf 5 0 ⟨#[]⟩, 0)
  else if s.data.toList = [123, 125] then (VT.leaf 6 0 ⟨#[]⟩, 0)
  else if goodN s.data.toList = true then (numT s, 0)
  else if s.data.toList.head? = some 64 then stampR (s.extract 1 s.size)
  else strR (unq s)
/-- Must a string be quoted in a cell? -/
def quotB (s : ByteArray) : Bool :=
  s.toList == [] || decide (s.data.toList.head? = some 39) || decide (s.data.toList.head? = some 64) || (cellV s).2 != 0 || (cellV s).1.k != 4 || !((cellV s).1.s.toList == s.toList)
def quo (s : ByteArray) : ByteArray := ⟨#[39]⟩ ++ s
def atS (s : ByteArray) : ByteArray := ⟨#[64]⟩ ++ s
def textS (s : ByteArray) : ByteArray := if quotB s then quo s else s
/-- A value's cell, and whether it has one. -/
def textV (t : VT) : ByteArray × Bool :=
  if decide (t.ln + t.mn > 0) || !goodT t then (⟨#[]⟩, false)
  else if t.k = 0 then (⟨#[110, 117, 108, 108]⟩, true)
  else if t.k = 1 then (if t.n = 1 then (⟨#[116, 114, 117, 101]⟩, true) else (⟨#[102, 97, 108, 115, 101]⟩, true))
  else if t.k = 2 then (⟨(Lib.itoa t.n).toArray⟩, true)
  else if t.k = 3 then (t.s, true)
  else if t.k = 7 then (atS t.s, true)
  else if t.k = 5 then (⟨#[91, 93]⟩, true)
  else if t.k = 6 then (⟨#[123, 125]⟩, true)
  else (textS t.s, true)
end Go.Proofs.YtcpmehppfccihaaGreatDoor
