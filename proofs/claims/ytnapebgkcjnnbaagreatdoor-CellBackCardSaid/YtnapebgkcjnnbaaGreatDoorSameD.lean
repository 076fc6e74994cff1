/-
  When two trees are alike, in plain Lean. No condition.
-/
import Derived.Test.YtnapebgkcjnnbaaGreatDoorTree
namespace Go.Proofs.YtnapebgkcjnnbaaGreatDoor
open Go.RowKit
set_option linter.unusedVariables false
set_option linter.unusedSimpArgs false
def sameB (num : ByteArray → ByteArray → Bool) : VT → VT → Bool
  | .no, b => (0 : Int) == b.k && (0 : Int) == b.n && 0 == b.ln && 0 == b.mn && ((⟨#[]⟩ : ByteArray).toList == b.s.toList)
  | .mk k n s _ _ _ ln _ lt _ _ _ mn _ key mt, b => k == b.k && n == b.n && ln == b.ln && mn == b.mn && (s.toList == b.s.toList || k == 3 && num s b.s) &&
      allTo (fun i => sameB num (lt i) (b.lt i)) ln && allTo (fun i => (key i).toList == (b.key i).toList && sameB num (mt i) (b.mt i)) mn
theorem sameB_eq (num : ByteArray → ByteArray → Bool) (a b : VT) : sameB num a b = (a.k == b.k && a.n == b.n && a.ln == b.ln && a.mn == b.mn && (a.s.toList == b.s.toList || a.k == 3 && num a.s b.s) &&
      allTo (fun i => sameB num (a.lt i) (b.lt i)) a.ln && allTo (fun i => (a.key i).toList == (b.key i).toList && sameB num (a.mt i) (b.mt i)) a.mn) := by
  cases a with
  | no => simp [sameB, VT.k, VT.n, VT.s, VT.ln, VT.mn, allTo]
  | mk => rfl
def nev (_ _ : ByteArray) : Bool := false
def sameV (a b : VT) : Bool := sameB nev a b
end Go.Proofs.YtnapebgkcjnnbaaGreatDoor
