/-
  value.Good tells what is written here, for all trees. Condition: the library's variables read as the library lays them.
-/
import Derived.Test.YtnapebgkcjnnbaaGreatDoorJudgeW
import Derived.Test.YtnapebgkcjnnbaaGreatDoorOwn
import Derived.Test.YtnapebgkcjnnbaaGreatDoorDecIJ
import Derived.Test.YtnapebgkcjnnbaaGreatDoorDecAsciiJ
import Derived.Test.YtnapebgkcjnnbaaGreatDoorUtfTake
import Derived.Test.YtnapebgkcjnnbaaGreatDoorStamp
namespace Go.Proofs.YtnapebgkcjnnbaaGreatDoor
open Go.RowKit
set_option linter.unusedVariables false
set_option linter.unusedSimpArgs false
theorem gPow' : Tryz.prog.globalNamed "internal/strconv.uint64pow10" = some 0 := by kernel_rfl
theorem gRng' : Tryz.prog.globalNamed "strconv.ErrRange" = some 2 := by kernel_rfl
theorem gSyn' : Tryz.prog.globalNamed "strconv.ErrSyntax" = some 1 := by kernel_rfl
/-- Behind the last variable that is read. -/
def GV : Nat := max 0 (max 2 1) + 1
theorem var_lt {n : String} {g : Nat} {cs : Array Value} {w : World} (hn : Tryz.prog.globalNamed n = some g) (h : w.var? Tryz.prog n = some cs) : g < w.heap.size := by
  unfold World.var? at h
  rw [hn] at h
  simp only [Option.bind_some] at h
  rcases Nat.lt_or_ge g w.heap.size with h' | h'
  · exact h'
  · rw [Array.getElem?_eq_none h'] at h; cases h
theorem var_b {n : String} {g B : Nat} {cs : Array Value} {w w' : World} (hn : Tryz.prog.globalNamed n = some g) (h : w.var? Tryz.prog n = some cs) (hg : g < B) (hb : Below B w w') : w'.var? Tryz.prog n = some cs := by
  unfold World.var? at h ⊢
  rw [hn] at h ⊢
  simp only [Option.bind_some] at h ⊢
  rw [hb.block g hg]
  exact h
theorem Vars.big {w : World} (h : Vars w) : GV ≤ w.heap.size := by
  have h1 := var_lt gPow' h.tab
  obtain ⟨_, _, hs⟩ := h.syn
  have h2 := var_lt gSyn' hs
  obtain ⟨_, _, hr⟩ := h.rng
  have h3 := var_lt gRng' hr
  unfold GV
  omega
theorem Vars.stay (B : Nat) (w w' : World) (hB : GV ≤ B) (h : Vars w) (hb : Below B w w') : Vars w' := by
  have hB' := hB
  unfold GV at hB'
  exact ⟨var_b gPow' h.tab (by omega) hb, by obtain ⟨t, p, h⟩ := h.syn; exact ⟨t, p, var_b gSyn' h (by omega) hb⟩, by obtain ⟨t, p, h⟩ := h.rng; exact ⟨t, p, var_b gRng' h (by omega) hb⟩⟩
def ownV (t : VT) : Bool := ownB t (intN t.s.data.toList).isSome (goodN t.s.data.toList) (letC t.s == 0) (stampB t.s)
theorem own_v (t : VT) (W : World) (hw : Vars W) (ht : VT.In W.heap.size W t) : Calls Tryz.prog 43 #[.agg t.c] W fun e w' => e = .returned (.bool (ownV t)) ∧ Below W.heap.size W w' := by
  have hs := ht.here.sl
  refine own_any t _ _ _ _ W ?_ ?_ ?_ ?_
  · exact fun _ W' hB => (int_any t.s W' (hw.step hB) good_ascii).mono fun e w' ⟨he, hb⟩ => ⟨⟨_, he⟩, hb⟩
  · exact fun _ W' hB => good_any t.s W'
  · exact fun _ W' hB => (letters_any t.s W' hs).mono fun e w' ⟨he, hb⟩ => ⟨⟨_, he, rfl⟩, hb⟩
  · exact fun _ W' hB => stamp_any t.s W' hs
def goodT (t : VT) : Bool := (judgeT ownV letC t 1 0).1
theorem goodT_any (t : VT) (w : World) (hw : Vars w) (ht : VT.In w.heap.size w t) : Calls Tryz.prog 13 #[.agg t.c] w fun e w' => e = .returned (.bool (goodT t)) ∧ Below w.heap.size w w' :=
  vGood_any ownV letC GV Vars (fun B W W' hB hW hb => Vars.stay B W W' hB hW hb) own_v (fun s W _ hs => letters_any s W hs) t w hw hw.big ht
end Go.Proofs.YtnapebgkcjnnbaaGreatDoor
