/-
  A region taken out of its function by its number, and single operations of it. No condition.
-/
import Derived.Test.YtcpmehppfccihaaGreatDoorGiveJ
namespace Go.Proofs.YtcpmehppfccihaaGreatDoor
open Go.RowKit
set_option linter.unusedVariables false
def regIn (k : Nat) : Code → Option (Array Oper)
  | .region id ops _ => if id == k then some ops else none
  | .seq a b => (regIn k a).or (regIn k b)
  | .cond _ a b => (regIn k a).or (regIn k b)
  | .block _ b => regIn k b
  | .loop b => regIn k b
  | .scope b => regIn k b
  | .rangeFunc _ _ a b => (regIn k a).or (regIn k b)
  | _ => none
def regOf (f : Func) (k : Nat) : Array Oper := ((f.body.bind (regIn k)).getD #[])
def opAt (ops : Array Oper) (i : Nat) : Option Op := (ops[i]?).map (·.op)
def plainAt (ops : Array Oper) (i : Nat) : Bool := match ops[i]? with | some o => o.guard.isNone | none => false
theorem op_of {ops : Array Oper} {i : Nat} {o : Oper} (ho : ops[i]? = some o) {p : Op} (h : opAt ops i = some p) : o.op = p := by
  simpa [opAt, ho] using h
theorem want_of {ops : Array Oper} {i : Nat} {o : Oper} (ho : ops[i]? = some o) (h : plainAt ops i = true) (y : Nat → Option Bool) : Region.wanted o y = true := by
  simp only [plainAt, ho] at h
  obtain ⟨d, p, ty, ps, af, g⟩ := o
  simp only [Option.isNone_iff_eq_none] at h
  subst h
  rfl
theorem wp_region_of {P : Program} {Q : Exit → Act → World → Prop} {id : Nat} {ops ops' : Array Oper} {d : Bool} {a : Act} {w : World} (h : ops = ops') (hw : (Code.region id ops' d).wp P Q a w) : (Code.region id ops d).wp P Q a w := h ▸ hw
end Go.Proofs.YtcpmehppfccihaaGreatDoor
