/-
  dec.parse, walked case by case. No condition beside those that name the case.
-/
import Derived.Test.YteplcnpmdjdlkaaGreatDoorDecPowerJ
import Derived.Handy
import Derived.Test.YteplcnpmdjdlkaaGreatDoorClkBase
namespace Go.Proofs.YteplcnpmdjdlkaaGreatDoor
open Go.RowKit
set_option linter.unusedVariables false
set_option linter.unusedSimpArgs false
/-- A number, as dec keeps it. -/
def numV (x : Bool × List UInt8 × Int) : Value := .agg #[.bool x.1, .string ⟨x.2.1.toArray⟩, .int .i64 x.2.2]
def parseV (x : Option (Bool × List UInt8 × Int)) : Value := .tuple #[numV (x.getD (false, [], 0)), .bool x.isSome]
theorem results_row_tmp {P : Program} {fn : Func} {p t : Tmp} {ty : TypeId} (h : fn.results = #[.cell p ty, .tmp t]) (tmps : Array Value) (w : World) (g : Nat) (t' : TypeId) (cs : Array Value) (fr : Nat × Nat) (d : TypeDesc) (v : Value)
    (hp : tmps.getD p undef = .pointer (some ⟨g, 0, none⟩)) (hv : tmps.getD t undef = v) (hg : w.heap[g]? = some (.cells cs t' fr))
    (hu : P.underlying ty = some d) (hd : (match d with | .struct _ | .array _ _ => true | _ => false) = true) (hi : (P.info? ty).map (·.size) = some cs.size) :
    (results fn tmps).run P w = .ok (.tuple #[.agg cs, v]) w := by
  have hp' : tmps[p]?.getD undef = .pointer (some ⟨g, 0, none⟩) := by simpa using hp
  have hv' : tmps[t]?.getD undef = v := by simpa using hv
  simp [results, h, hp', hv', asAddr, run_loadVar_row w g t' ty cs fr d hg hu hd hi]

theorem new_row (w : World) (o : Obj) (n : Nat) : ((w.alloc o).drewN n).heap[w.heap.size]? = some o := by rw [show ((w.alloc o).drewN n).heap = (w.alloc o).heap from by simp [World.drewN]]; exact heap_alloc_new _ _
theorem new_below (w : World) (o : Obj) (n : Nat) : Below w.heap.size w ((w.alloc o).drewN n) :=
  have h := (Below.refl w.heap.size w).alloc (Nat.le_refl _) o
  by cases n <;> exact ⟨h.os, h.tape, h.output, h.size, h.block⟩
theorem num_one {a : Bool} {b : ByteArray} {c : Int} : (#[.bool a, .string b, .int .i64 c] : Array Value).all (·.oneCell') = true := by simp [Value.oneCell']
theorem num_info {a b c : Value} : (Tryz.prog.info? 140).map (·.size) = some (#[a, b, c] : Array Value).size := by kernel_rfl


set_option maxRecDepth 100000 in
set_option maxHeartbeats 2000000 in
theorem parse_long (s : ByteArray) (w : World) (hs : ¬ (s.size : Int) ≤ 400) :
    Calls Tryz.prog 105 #[.string s] w fun e w' => e = .returned (parseV none) ∧ Below w.heap.size w w' := by
  go_enter Tryz.func105, Tryz.ntmps105
  go_wp2
  all_goals (go_returns; exact ⟨rfl, by first | exact Below.refl _ _ | exact ((Below.refl _ _).alloc (Nat.le_refl _) _)⟩)

set_option maxRecDepth 100000 in
set_option maxHeartbeats 2000000 in
theorem parse_zero (s : ByteArray) (w : World) (hs : s.size ≤ 400) (b : Bool) (R : ByteArray) (n : Nat) (hm : Lib.hasPrefix s.data.toList [45] = b) (hR : (⟨(Lib.trimPrefix s.data.toList [45]).toArray⟩ : ByteArray) = R) (hRs : R.size ≤ 400) (hn : digN R.data.toList = n) (hn1 : n ≤ R.size) (h0 : n = 0) :
    Calls Tryz.prog 105 #[.string s] w fun e w' => e = .returned (parseV none) ∧ Below w.heap.size w w' := by
  have HR := Lib.hid hR
  have Hm := Lib.hid hm
  have Hn := Lib.hid hn
  clear hR hm hn
  subst h0
  go_enter Tryz.func105, Tryz.ntmps105
  go_wp2_with (first | (go_at_call 111; refine (Tryz.strings_CutPrefix _ _ _).mono ?_; rintro e w1 ⟨rfl, hw⟩; rw [hw]; clear hw; rw [HR.out, Hm.out]) | (go_at_call 112; refine (digits_any _ _ (by omega)).mono ?_; rintro e w1 ⟨rfl, hw⟩; rw [hw]; clear hw; rw [Hn.out]))
  all_goals (go_returns; exact ⟨rfl, by first | exact Below.refl _ _ | exact ((Below.refl _ _).alloc (Nat.le_refl _) _)⟩)

set_option maxRecDepth 100000 in
set_option maxHeartbeats 2000000 in
theorem parse_lead (s : ByteArray) (w : World) (hs : s.size ≤ 400) (b : Bool) (R : ByteArray) (n : Nat) (hm : Lib.hasPrefix s.data.toList [45] = b) (hR : (⟨(Lib.trimPrefix s.data.toList [45]).toArray⟩ : ByteArray) = R) (hRs : R.size ≤ 400) (hn : digN R.data.toList = n) (hn1 : n ≤ R.size) (h0 : 1 < n) (hz : 0 < R.size) (hz2 : ((R[0]'hz).toNat : Int) = 48) :
    Calls Tryz.prog 105 #[.string s] w fun e w' => e = .returned (parseV none) ∧ Below w.heap.size w w' := by
  have HR := Lib.hid hR
  have Hm := Lib.hid hm
  have Hn := Lib.hid hn
  clear hR hm hn
  have h00 : ¬ (n : Int) = 0 := by omega
  go_enter Tryz.func105, Tryz.ntmps105
  go_wp2_with (first | (go_at_call 111; refine (Tryz.strings_CutPrefix _ _ _).mono ?_; rintro e w1 ⟨rfl, hw⟩; rw [hw]; clear hw; rw [HR.out, Hm.out]) | (go_at_call 112; refine (digits_any _ _ (by omega)).mono ?_; rintro e w1 ⟨rfl, hw⟩; rw [hw]; clear hw; rw [Hn.out]))
  all_goals (go_returns; exact ⟨rfl, by first | exact Below.refl _ _ | exact ((Below.refl _ _).alloc (Nat.le_refl _) _)⟩)

set_option maxRecDepth 100000 in
set_option maxHeartbeats 2000000 in
theorem parse_dotfail (s : ByteArray) (w : World) (hs : s.size ≤ 400) (b : Bool) (R : ByteArray) (n : Nat) (hm : Lib.hasPrefix s.data.toList [45] = b) (hR : (⟨(Lib.trimPrefix s.data.toList [45]).toArray⟩ : ByteArray) = R) (hRs : R.size ≤ 400) (hn : digN R.data.toList = n) (hn1 : n ≤ R.size) (hn0 : 0 < n) (h00 : n ≤ 1 ∨ ∃ h : 0 < R.size, ¬ ((R[0]'h).toNat : Int) = 48) (Wh R2 : ByteArray) (hWh : R.extract 0 n = Wh) (hW1 : 1 ≤ Wh.size) (hWs : Wh.size ≤ 400) (hR2 : R.extract n R.size = R2) (hR2s : R2.size ≤ 400) (hd : Lib.hasPrefix R2.data.toList [46] = true) (hR2p : 1 ≤ (R2.size : Int)) (R3 : ByteArray) (hR3 : R2.extract 1 R2.size = R3) (hR3s : R3.size ≤ 400) (hk : digN R3.data.toList = 0) :
    Calls Tryz.prog 105 #[.string s] w fun e w' => e = .returned (parseV none) ∧ Below w.heap.size w w' := by
  have HR := Lib.hid hR
  have Hm := Lib.hid hm
  have Hn := Lib.hid hn
  clear hR hm hn
  have H00 := Lib.hid h00
  have Hd := Lib.hid hd
  clear h00 hd
  have Hk := Lib.hid hk
  clear hk
  go_enter Tryz.func105, Tryz.ntmps105
  go_wp2_with (first | (go_at_call 111; refine (Tryz.strings_CutPrefix _ _ _).mono ?_; rintro e w1 ⟨rfl, hw⟩; rw [hw]; clear hw; rw [HR.out, Hm.out]) | (go_at_call 112; refine (digits_any _ _ (by omega)).mono ?_; rintro e w1 ⟨rfl, hw⟩; rw [hw]; clear hw; first | rw [Hn.out] | rw [Hk.out]) | (go_at_call 113; refine (Tryz.strings_HasPrefix _ _ _).mono ?_; rintro e w1 ⟨rfl, hw⟩; rw [hw]; clear hw; rw [Hd.out]))
  all_goals first | (exfalso; rcases H00.out with h | ⟨h, h2⟩ <;> first | omega | (apply h2; assumption) | (apply h2; simp_all; done)) | (go_returns; exact ⟨rfl, by first | exact Below.refl _ _ | exact ((Below.refl _ _).alloc (Nat.le_refl _) _)⟩)


end Go.Proofs.YteplcnpmdjdlkaaGreatDoor
