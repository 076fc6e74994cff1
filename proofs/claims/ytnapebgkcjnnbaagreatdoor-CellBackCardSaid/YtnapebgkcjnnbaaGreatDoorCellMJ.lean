/-
  Cells and values, in plain Lean: what a cell says, how a value is written; what was written is read back. No condition.
-/
import Derived.Test.YtnapebgkcjnnbaaGreatDoorGoodVJ
import Derived.Test.YtnapebgkcjnnbaaGreatDoorSameD
namespace Go.Proofs.YtnapebgkcjnnbaaGreatDoor
set_option linter.unusedVariables false
set_option linter.unusedSimpArgs false
/-- The value that a number's text says. -/
def numT (s : ByteArray) : VT := if (intN s.data.toList).isSome = true then VT.leaf 2 ((intN s.data.toList).getD 0) ⟨#[]⟩ else VT.leaf 3 0 s
def strR (s : ByteArray) : VT × Int := if letC s == 0 then (VT.leaf 4 0 s, 0) else (.no, letC s)
def stampR (s : ByteArray) : VT × Int := if stampB s then (VT.leaf 7 0 s, 0) else (.no, 4)
def unq (s : ByteArray) : ByteArray := ⟨(Lib.trimPrefix s.data.toList [39]).toArray⟩
/-- What a cell says, and the error. -/
def cellV (s : ByteArray) : VT × Int :=
  if s.data.toList = [] then (.no, 9)
  else if s.data.toList = [110, 117, 108, 108] then (.no, 0)
  else if s.data.toList = [116, 114, 117, 101] then (VT.leaf 1 1 ⟨#[]⟩, 0)
  else if s.data.toList = [102, 97, 108, 115, 101] then (VT.leaf 1 0 ⟨#[]⟩, 0)
  else if s.data.toList = [91, 93] then (VT.leaf 5 0 ⟨#[]⟩, 0)
  else if s.data.toList = [123, 125] then (VT.leaf 6 0 ⟨#[]⟩, 0)
  else if goodN s.data.toList = true then (numT s, 0)
  else if s.data.toList.head? = some 64 then stampR (s.extract 1 s.size)
  else strR (unq s)
/-- Must a string be quoted in a cell? -/
def quotB (s : ByteArray) : Bool :=
  s.toList == [] || decide (s.data.toList.head? = some 39) || decide (s.data.toList.head? = some 64) || (cellV s).2 != 0 || (cellV s).1.k != 4 || !((cellV s).1.s.toList == s.toList)
def quo (s : ByteArray) : ByteArray := ⟨#[39]⟩ ++ s
def atS (s : ByteArray) : ByteArray := ⟨#[64]⟩ ++ s
def textS (s : ByteArray) : ByteArray := if quotB s then quo s else s
/-- A value's cell, and whether it has one. -/
def textV (t : VT) : ByteArray × Bool :=
  if decide (t.ln + t.mn > 0) || !goodT t then (⟨#[]⟩, false)
  else if t.k = 0 then (⟨#[110, 117, 108, 108]⟩, true)
  else if t.k = 1 then (if t.n = 1 then (⟨#[116, 114, 117, 101]⟩, true) else (⟨#[102, 97, 108, 115, 101]⟩, true))
  else if t.k = 2 then (⟨(Lib.itoa t.n).toArray⟩, true)
  else if t.k = 3 then (t.s, true)
  else if t.k = 7 then (atS t.s, true)
  else if t.k = 5 then (⟨#[91, 93]⟩, true)
  else if t.k = 6 then (⟨#[123, 125]⟩, true)
  else (textS t.s, true)
end Go.Proofs.YtnapebgkcjnnbaaGreatDoor
