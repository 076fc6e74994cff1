/-
  The reference's plain tells what is written here, for the kinds that have no parts. Condition: what Number and Int tell is known.
-/
import Derived.Test.YteplcnpmdjdlkaaGreatDoorRSteepJ
import Derived.Test.YteplcnpmdjdlkaaGreatDoorJ22
import Derived.Test.YteplcnpmdjdlkaaGreatDoorJ10
namespace Go.Proofs.YteplcnpmdjdlkaaGreatDoor
open Go.RowKit
set_option linter.unusedVariables false
set_option linter.unusedSimpArgs false
set_option linter.unusedSectionVars false
/-- May a map's pair be, but for its value? -/
def keyB (key : Nat → ByteArray) (i : Nat) : Bool := letC (key i) == 0 && !(decide (0 < i) && !risesB (key (i - 1)) (key i))
def plainT : VT → Bool
  | .no => ownV .no
  | .mk k n s lA lb lo ln lc lt mA mb mo mn mc key mt => ownV (.mk k n s lA lb lo ln lc lt mA mb mo mn mc key mt) && allTo (fun i => plainT (lt i)) ln && allTo (fun i => keyB key i && plainT (mt i)) mn
theorem plainT_eq (t : VT) : plainT t = (ownV t && allTo (fun i => plainT (t.lt i)) t.ln && allTo (fun i => keyB t.key i && plainT (t.mt i)) t.mn) := by
  cases t with
  | no => simp [plainT, VT.ln, VT.mn, allTo]
  | mk => rfl
theorem plain_own {t : VT} (h : ownV t = false) : plainT t = false := by rw [plainT_eq, h]; rfl
theorem plain_bare {t : VT} (hl : (t.ln == 0) = true) (hm : (t.mn == 0) = true) : plainT t = ownV t := by
  have h1 : t.ln = 0 := by simpa using hl
  have h2 : t.mn = 0 := by simpa using hm
  rw [plainT_eq, h1, h2]; simp [allTo]
theorem len_l {n : Nat} {l : Bool} (h : (n == 0) = l) : decide ((0 : Int) < n) = !l ∧ decide (0 < n) = !l := by
  subst h
  cases n <;> simp <;> omega
section
variable (HI : ∀ (s : ByteArray) (w : World), s.size ≤ 9223372036854775807 → Calls Tryz.prog 60 #[.string s] w fun e w' => (∃ r, e = .returned (.tuple #[.int .i64 r, .bool (intN s.data.toList).isSome])) ∧ Below w.heap.size w w')
  (HG : ∀ (s : ByteArray) (w : World), s.size ≤ 9223372036854775807 → Calls Tryz.prog 61 #[.string s] w fun e w' => e = .returned (.bool (goodN s.data.toList)) ∧ Below w.heap.size w w')
  (HS : ∀ (s : ByteArray) (w : World), s.size ≤ 9223372036854775807 → Calls Tryz.prog 62 #[.string s] w fun e w' => e = .returned (.bool (stampB s)) ∧ Below w.heap.size w w')
set_option maxRecDepth 100000 in
  set_option maxHeartbeats 1000000 in
  theorem plain_0n (t : VT) (w : World) (hz : t.s.size ≤ 9223372036854775807) (hk : t.k = 0) (hn : (t.n == 0) = false)  : Calls Tryz.prog 45 #[.agg t.c] w fun e w' => e = .returned (.bool (plainT t)) ∧ Below w.heap.size w w' := by
    have hh : Hid (plainT t = false) := by unfold Hid; refine plain_own ?_; unfold ownV ownB; simp [hk, hn]
    have a0 : t.c[0]? = some (.int .i64 0) := congrArg (fun x => some (Value.int .i64 x)) hk; have a1 : t.c[1]? = some (.int .i64 t.n) := rfl; have hnb : (t.n != 0) = true := congrArg (fun b => !b) hn
    have a2 : t.c[2]? = some (.string t.s) := rfl
    have a3 : t.c[3]? = some (.slice t.lA t.ln t.lc) := rfl
    have a4 : t.c[4]? = some (.slice t.mA t.mn t.mc) := rfl
    have hS : Sees w (w.alloc (Obj.cells t.c 34)) [(w.heap.size, Obj.cells t.c 34)] := (Sees.start w).alloc _
    skip
    go_enter Tryz.func45, Tryz.ntmps45
    go_wp2_with go_skip
    go_ret
    exact ⟨ret_bool hh.out.symm, hS.below⟩
set_option maxRecDepth 100000 in
set_option maxHeartbeats 1000000 in
theorem plain_0s (t : VT) (w : World) (hz : t.s.size ≤ 9223372036854775807) (hk : t.k = 0) (hn : t.n = 0) (hs : (t.s.toList == []) = false)  : Calls Tryz.prog 45 #[.agg t.c] w fun e w' => e = .returned (.bool (plainT t)) ∧ Below w.heap.size w w' := by
  have hh : Hid (plainT t = false) := by unfold Hid; have hs0 : t.s.toList.isEmpty = false := (by cases hq : t.s.toList <;> simp_all); refine plain_own ?_; unfold ownV ownB; simp [hk, hn, hs0]
  have a0 : t.c[0]? = some (.int .i64 0) := congrArg (fun x => some (Value.int .i64 x)) hk; have a1 : t.c[1]? = some (.int .i64 0) := congrArg (fun x => some (Value.int .i64 x)) hn; have hsb : (t.s.toList != []) = true := congrArg (fun b => !b) hs
  have a2 : t.c[2]? = some (.string t.s) := rfl
  have a3 : t.c[3]? = some (.slice t.lA t.ln t.lc) := rfl
  have a4 : t.c[4]? = some (.slice t.mA t.mn t.mc) := rfl
  have hS : Sees w (w.alloc (Obj.cells t.c 34)) [(w.heap.size, Obj.cells t.c 34)] := (Sees.start w).alloc _
  skip
  go_enter Tryz.func45, Tryz.ntmps45
  go_wp2_with go_skip
  go_ret
  exact ⟨ret_bool hh.out.symm, hS.below⟩
set_option maxRecDepth 100000 in
set_option maxHeartbeats 1000000 in
theorem plain_0l (t : VT) (w : World) (hz : t.s.size ≤ 9223372036854775807) (hk : t.k = 0) (hn : t.n = 0) (hs : (t.s.toList == []) = true) (hl : (t.ln == 0) = false)  : Calls Tryz.prog 45 #[.agg t.c] w fun e w' => e = .returned (.bool (plainT t)) ∧ Below w.heap.size w w' := by
  have hh : Hid (plainT t = false) := by unfold Hid; have hs0 : t.s.toList.isEmpty = true := (by cases hq : t.s.toList <;> simp_all); refine plain_own ?_; unfold ownV ownB; simp [hk, hn, hs0, hl]
  have a0 : t.c[0]? = some (.int .i64 0) := congrArg (fun x => some (Value.int .i64 x)) hk; have a1 : t.c[1]? = some (.int .i64 0) := congrArg (fun x => some (Value.int .i64 x)) hn; have hsb : (t.s.toList != []) = false := congrArg (fun b => !b) hs; have hl2 : decide ((0 : Int) < t.ln) = true := (len_l hl).1; have hl3 : decide (0 < t.ln) = true := (len_l hl).2
  have a2 : t.c[2]? = some (.string t.s) := rfl
  have a3 : t.c[3]? = some (.slice t.lA t.ln t.lc) := rfl
  have a4 : t.c[4]? = some (.slice t.mA t.mn t.mc) := rfl
  have hS : Sees w (w.alloc (Obj.cells t.c 34)) [(w.heap.size, Obj.cells t.c 34)] := (Sees.start w).alloc _
  skip
  go_enter Tryz.func45, Tryz.ntmps45
  go_wp2_with go_skip
  go_ret
  exact ⟨ret_bool hh.out.symm, hS.below⟩
set_option maxRecDepth 100000 in
set_option maxHeartbeats 1000000 in
theorem plain_0m (t : VT) (w : World) (hz : t.s.size ≤ 9223372036854775807) (hk : t.k = 0) (hn : t.n = 0) (hs : (t.s.toList == []) = true) (hl : (t.ln == 0) = true) (hm : (t.mn == 0) = false)  : Calls Tryz.prog 45 #[.agg t.c] w fun e w' => e = .returned (.bool (plainT t)) ∧ Below w.heap.size w w' := by
  have hh : Hid (plainT t = false) := by unfold Hid; have hs0 : t.s.toList.isEmpty = true := (by cases hq : t.s.toList <;> simp_all); refine plain_own ?_; unfold ownV ownB; simp [hk, hn, hs0, hl, hm]
  have a0 : t.c[0]? = some (.int .i64 0) := congrArg (fun x => some (Value.int .i64 x)) hk; have a1 : t.c[1]? = some (.int .i64 0) := congrArg (fun x => some (Value.int .i64 x)) hn; have hsb : (t.s.toList != []) = false := congrArg (fun b => !b) hs; have hl2 : decide ((0 : Int) < t.ln) = false := (len_l hl).1; have hl3 : decide (0 < t.ln) = false := (len_l hl).2; have hm2 : decide ((0 : Int) < t.mn) = true := (len_l hm).1; have hm3 : decide (0 < t.mn) = true := (len_l hm).2
  have a2 : t.c[2]? = some (.string t.s) := rfl
  have a3 : t.c[3]? = some (.slice t.lA t.ln t.lc) := rfl
  have a4 : t.c[4]? = some (.slice t.mA t.mn t.mc) := rfl
  have hS : Sees w (w.alloc (Obj.cells t.c 34)) [(w.heap.size, Obj.cells t.c 34)] := (Sees.start w).alloc _
  skip
  go_enter Tryz.func45, Tryz.ntmps45
  go_wp2_with go_skip
  go_ret
  exact ⟨ret_bool hh.out.symm, hS.below⟩
set_option maxRecDepth 100000 in
set_option maxHeartbeats 1000000 in
theorem plain_0t (t : VT) (w : World) (hz : t.s.size ≤ 9223372036854775807) (hk : t.k = 0) (hn : t.n = 0) (hs : (t.s.toList == []) = true) (hl : (t.ln == 0) = true) (hm : (t.mn == 0) = true)  : Calls Tryz.prog 45 #[.agg t.c] w fun e w' => e = .returned (.bool (plainT t)) ∧ Below w.heap.size w w' := by
  have hh : Hid (plainT t = true) := by unfold Hid; have hs0 : t.s.toList.isEmpty = true := (by cases hq : t.s.toList <;> simp_all); rw [plain_bare hl hm]; unfold ownV ownB; simp [hk, hn, hs0, hl, hm]
  have a0 : t.c[0]? = some (.int .i64 0) := congrArg (fun x => some (Value.int .i64 x)) hk; have a1 : t.c[1]? = some (.int .i64 0) := congrArg (fun x => some (Value.int .i64 x)) hn; have hsb : (t.s.toList != []) = false := congrArg (fun b => !b) hs; have hl2 : decide ((0 : Int) < t.ln) = false := (len_l hl).1; have hl3 : decide (0 < t.ln) = false := (len_l hl).2; have hm2 : decide ((0 : Int) < t.mn) = false := (len_l hm).1; have hm3 : decide (0 < t.mn) = false := (len_l hm).2
  have a2 : t.c[2]? = some (.string t.s) := rfl
  have a3 : t.c[3]? = some (.slice t.lA t.ln t.lc) := rfl
  have a4 : t.c[4]? = some (.slice t.mA t.mn t.mc) := rfl
  have hS : Sees w (w.alloc (Obj.cells t.c 34)) [(w.heap.size, Obj.cells t.c 34)] := (Sees.start w).alloc _
  skip
  go_enter Tryz.func45, Tryz.ntmps45
  go_wp2_with go_skip
  go_ret
  exact ⟨ret_bool hh.out.symm, hS.below⟩
set_option maxRecDepth 100000 in
set_option maxHeartbeats 1000000 in
theorem plain_1s (t : VT) (w : World) (hz : t.s.size ≤ 9223372036854775807) (hk : t.k = 1) (hs : (t.s.toList == []) = false)  : Calls Tryz.prog 45 #[.agg t.c] w fun e w' => e = .returned (.bool (plainT t)) ∧ Below w.heap.size w w' := by
  have hh : Hid (plainT t = false) := by unfold Hid; have hs0 : t.s.toList.isEmpty = false := (by cases hq : t.s.toList <;> simp_all); refine plain_own ?_; unfold ownV ownB; simp [hk, hs0]
  have a0 : t.c[0]? = some (.int .i64 1) := congrArg (fun x => some (Value.int .i64 x)) hk; have a1 : t.c[1]? = some (.int .i64 t.n) := rfl; have hsb : (t.s.toList != []) = true := congrArg (fun b => !b) hs
  have a2 : t.c[2]? = some (.string t.s) := rfl
  have a3 : t.c[3]? = some (.slice t.lA t.ln t.lc) := rfl
  have a4 : t.c[4]? = some (.slice t.mA t.mn t.mc) := rfl
  have hS : Sees w (w.alloc (Obj.cells t.c 34)) [(w.heap.size, Obj.cells t.c 34)] := (Sees.start w).alloc _
  skip
  go_enter Tryz.func45, Tryz.ntmps45
  go_wp2_with go_skip
  go_ret
  exact ⟨ret_bool hh.out.symm, hS.below⟩
set_option maxRecDepth 100000 in
set_option maxHeartbeats 1000000 in
theorem plain_1l (t : VT) (w : World) (hz : t.s.size ≤ 9223372036854775807) (hk : t.k = 1) (hs : (t.s.toList == []) = true) (hl : (t.ln == 0) = false)  : Calls Tryz.prog 45 #[.agg t.c] w fun e w' => e = .returned (.bool (plainT t)) ∧ Below w.heap.size w w' := by
  have hh : Hid (plainT t = false) := by unfold Hid; have hs0 : t.s.toList.isEmpty = true := (by cases hq : t.s.toList <;> simp_all); refine plain_own ?_; unfold ownV ownB; simp [hk, hs0, hl]
  have a0 : t.c[0]? = some (.int .i64 1) := congrArg (fun x => some (Value.int .i64 x)) hk; have a1 : t.c[1]? = some (.int .i64 t.n) := rfl; have hsb : (t.s.toList != []) = false := congrArg (fun b => !b) hs; have hl2 : decide ((0 : Int) < t.ln) = true := (len_l hl).1; have hl3 : decide (0 < t.ln) = true := (len_l hl).2
  have a2 : t.c[2]? = some (.string t.s) := rfl
  have a3 : t.c[3]? = some (.slice t.lA t.ln t.lc) := rfl
  have a4 : t.c[4]? = some (.slice t.mA t.mn t.mc) := rfl
  have hS : Sees w (w.alloc (Obj.cells t.c 34)) [(w.heap.size, Obj.cells t.c 34)] := (Sees.start w).alloc _
  skip
  go_enter Tryz.func45, Tryz.ntmps45
  go_wp2_with go_skip
  go_ret
  exact ⟨ret_bool hh.out.symm, hS.below⟩
set_option maxRecDepth 100000 in
set_option maxHeartbeats 1000000 in
theorem plain_1m (t : VT) (w : World) (hz : t.s.size ≤ 9223372036854775807) (hk : t.k = 1) (hs : (t.s.toList == []) = true) (hl : (t.ln == 0) = true) (hm : (t.mn == 0) = false)  : Calls Tryz.prog 45 #[.agg t.c] w fun e w' => e = .returned (.bool (plainT t)) ∧ Below w.heap.size w w' := by
  have hh : Hid (plainT t = false) := by unfold Hid; have hs0 : t.s.toList.isEmpty = true := (by cases hq : t.s.toList <;> simp_all); refine plain_own ?_; unfold ownV ownB; simp [hk, hs0, hl, hm]
  have a0 : t.c[0]? = some (.int .i64 1) := congrArg (fun x => some (Value.int .i64 x)) hk; have a1 : t.c[1]? = some (.int .i64 t.n) := rfl; have hsb : (t.s.toList != []) = false := congrArg (fun b => !b) hs; have hl2 : decide ((0 : Int) < t.ln) = false := (len_l hl).1; have hl3 : decide (0 < t.ln) = false := (len_l hl).2; have hm2 : decide ((0 : Int) < t.mn) = true := (len_l hm).1; have hm3 : decide (0 < t.mn) = true := (len_l hm).2
  have a2 : t.c[2]? = some (.string t.s) := rfl
  have a3 : t.c[3]? = some (.slice t.lA t.ln t.lc) := rfl
  have a4 : t.c[4]? = some (.slice t.mA t.mn t.mc) := rfl
  have hS : Sees w (w.alloc (Obj.cells t.c 34)) [(w.heap.size, Obj.cells t.c 34)] := (Sees.start w).alloc _
  skip
  go_enter Tryz.func45, Tryz.ntmps45
  go_wp2_with go_skip
  go_ret
  exact ⟨ret_bool hh.out.symm, hS.below⟩
set_option maxRecDepth 100000 in
set_option maxHeartbeats 1000000 in
theorem plain_1a (t : VT) (w : World) (hz : t.s.size ≤ 9223372036854775807) (hk : t.k = 1) (hn : t.n = 0) (hs : (t.s.toList == []) = true) (hl : (t.ln == 0) = true) (hm : (t.mn == 0) = true)  : Calls Tryz.prog 45 #[.agg t.c] w fun e w' => e = .returned (.bool (plainT t)) ∧ Below w.heap.size w w' := by
  have hh : Hid (plainT t = true) := by unfold Hid; have hs0 : t.s.toList.isEmpty = true := (by cases hq : t.s.toList <;> simp_all); rw [plain_bare hl hm]; unfold ownV ownB; simp [hk, hn, hs0, hl, hm]
  have a0 : t.c[0]? = some (.int .i64 1) := congrArg (fun x => some (Value.int .i64 x)) hk; have a1 : t.c[1]? = some (.int .i64 0) := congrArg (fun x => some (Value.int .i64 x)) hn; have hsb : (t.s.toList != []) = false := congrArg (fun b => !b) hs; have hl2 : decide ((0 : Int) < t.ln) = false := (len_l hl).1; have hl3 : decide (0 < t.ln) = false := (len_l hl).2; have hm2 : decide ((0 : Int) < t.mn) = false := (len_l hm).1; have hm3 : decide (0 < t.mn) = false := (len_l hm).2
  have a2 : t.c[2]? = some (.string t.s) := rfl
  have a3 : t.c[3]? = some (.slice t.lA t.ln t.lc) := rfl
  have a4 : t.c[4]? = some (.slice t.mA t.mn t.mc) := rfl
  have hS : Sees w (w.alloc (Obj.cells t.c 34)) [(w.heap.size, Obj.cells t.c 34)] := (Sees.start w).alloc _
  skip
  go_enter Tryz.func45, Tryz.ntmps45
  go_wp2_with go_skip
  go_ret
  exact ⟨ret_bool hh.out.symm, hS.below⟩
set_option maxRecDepth 100000 in
set_option maxHeartbeats 1000000 in
theorem plain_1b (t : VT) (w : World) (hz : t.s.size ≤ 9223372036854775807) (hk : t.k = 1) (hn : (t.n == 0) = false) (hn1 : (t.n == 1) = true) (hs : (t.s.toList == []) = true) (hl : (t.ln == 0) = true) (hm : (t.mn == 0) = true)  : Calls Tryz.prog 45 #[.agg t.c] w fun e w' => e = .returned (.bool (plainT t)) ∧ Below w.heap.size w w' := by
  have hh : Hid (plainT t = true) := by unfold Hid; have hs0 : t.s.toList.isEmpty = true := (by cases hq : t.s.toList <;> simp_all); rw [plain_bare hl hm]; unfold ownV ownB; simp [hk, hn, hn1, hs0, hl, hm]
  have a0 : t.c[0]? = some (.int .i64 1) := congrArg (fun x => some (Value.int .i64 x)) hk; have a1 : t.c[1]? = some (.int .i64 t.n) := rfl; have hnb : (t.n != 0) = true := congrArg (fun b => !b) hn; have hsb : (t.s.toList != []) = false := congrArg (fun b => !b) hs; have hl2 : decide ((0 : Int) < t.ln) = false := (len_l hl).1; have hl3 : decide (0 < t.ln) = false := (len_l hl).2; have hm2 : decide ((0 : Int) < t.mn) = false := (len_l hm).1; have hm3 : decide (0 < t.mn) = false := (len_l hm).2
  have a2 : t.c[2]? = some (.string t.s) := rfl
  have a3 : t.c[3]? = some (.slice t.lA t.ln t.lc) := rfl
  have a4 : t.c[4]? = some (.slice t.mA t.mn t.mc) := rfl
  have hS : Sees w (w.alloc (Obj.cells t.c 34)) [(w.heap.size, Obj.cells t.c 34)] := (Sees.start w).alloc _
  skip
  go_enter Tryz.func45, Tryz.ntmps45
  go_wp2_with go_skip
  go_ret
  exact ⟨ret_bool hh.out.symm, hS.below⟩
set_option maxRecDepth 100000 in
set_option maxHeartbeats 1000000 in
theorem plain_1c (t : VT) (w : World) (hz : t.s.size ≤ 9223372036854775807) (hk : t.k = 1) (hn : (t.n == 0) = false) (hn1 : (t.n == 1) = false) (hs : (t.s.toList == []) = true) (hl : (t.ln == 0) = true) (hm : (t.mn == 0) = true)  : Calls Tryz.prog 45 #[.agg t.c] w fun e w' => e = .returned (.bool (plainT t)) ∧ Below w.heap.size w w' := by
  have hh : Hid (plainT t = false) := by unfold Hid; have hs0 : t.s.toList.isEmpty = true := (by cases hq : t.s.toList <;> simp_all); refine plain_own ?_; unfold ownV ownB; simp [hk, hn, hn1, hs0, hl, hm]
  have a0 : t.c[0]? = some (.int .i64 1) := congrArg (fun x => some (Value.int .i64 x)) hk; have a1 : t.c[1]? = some (.int .i64 t.n) := rfl; have hnb : (t.n != 0) = true := congrArg (fun b => !b) hn; have hsb : (t.s.toList != []) = false := congrArg (fun b => !b) hs; have hl2 : decide ((0 : Int) < t.ln) = false := (len_l hl).1; have hl3 : decide (0 < t.ln) = false := (len_l hl).2; have hm2 : decide ((0 : Int) < t.mn) = false := (len_l hm).1; have hm3 : decide (0 < t.mn) = false := (len_l hm).2
  have a2 : t.c[2]? = some (.string t.s) := rfl
  have a3 : t.c[3]? = some (.slice t.lA t.ln t.lc) := rfl
  have a4 : t.c[4]? = some (.slice t.mA t.mn t.mc) := rfl
  have hS : Sees w (w.alloc (Obj.cells t.c 34)) [(w.heap.size, Obj.cells t.c 34)] := (Sees.start w).alloc _
  skip
  go_enter Tryz.func45, Tryz.ntmps45
  go_wp2_with go_skip
  go_ret
  exact ⟨ret_bool hh.out.symm, hS.below⟩
set_option maxRecDepth 100000 in
set_option maxHeartbeats 1000000 in
theorem plain_2s (t : VT) (w : World) (hz : t.s.size ≤ 9223372036854775807) (hk : t.k = 2) (hs : (t.s.toList == []) = false)  : Calls Tryz.prog 45 #[.agg t.c] w fun e w' => e = .returned (.bool (plainT t)) ∧ Below w.heap.size w w' := by
  have hh : Hid (plainT t = false) := by unfold Hid; have hs0 : t.s.toList.isEmpty = false := (by cases hq : t.s.toList <;> simp_all); refine plain_own ?_; unfold ownV ownB; simp [hk, hs0]
  have a0 : t.c[0]? = some (.int .i64 2) := congrArg (fun x => some (Value.int .i64 x)) hk; have a1 : t.c[1]? = some (.int .i64 t.n) := rfl; have hsb : (t.s.toList != []) = true := congrArg (fun b => !b) hs
  have a2 : t.c[2]? = some (.string t.s) := rfl
  have a3 : t.c[3]? = some (.slice t.lA t.ln t.lc) := rfl
  have a4 : t.c[4]? = some (.slice t.mA t.mn t.mc) := rfl
  have hS : Sees w (w.alloc (Obj.cells t.c 34)) [(w.heap.size, Obj.cells t.c 34)] := (Sees.start w).alloc _
  skip
  go_enter Tryz.func45, Tryz.ntmps45
  go_wp2_with go_skip
  go_ret
  exact ⟨ret_bool hh.out.symm, hS.below⟩
set_option maxRecDepth 100000 in
set_option maxHeartbeats 1000000 in
theorem plain_2l (t : VT) (w : World) (hz : t.s.size ≤ 9223372036854775807) (hk : t.k = 2) (hs : (t.s.toList == []) = true) (hl : (t.ln == 0) = false)  : Calls Tryz.prog 45 #[.agg t.c] w fun e w' => e = .returned (.bool (plainT t)) ∧ Below w.heap.size w w' := by
  have hh : Hid (plainT t = false) := by unfold Hid; have hs0 : t.s.toList.isEmpty = true := (by cases hq : t.s.toList <;> simp_all); refine plain_own ?_; unfold ownV ownB; simp [hk, hs0, hl]
  have a0 : t.c[0]? = some (.int .i64 2) := congrArg (fun x => some (Value.int .i64 x)) hk; have a1 : t.c[1]? = some (.int .i64 t.n) := rfl; have hsb : (t.s.toList != []) = false := congrArg (fun b => !b) hs; have hl2 : decide ((0 : Int) < t.ln) = true := (len_l hl).1; have hl3 : decide (0 < t.ln) = true := (len_l hl).2
  have a2 : t.c[2]? = some (.string t.s) := rfl
  have a3 : t.c[3]? = some (.slice t.lA t.ln t.lc) := rfl
  have a4 : t.c[4]? = some (.slice t.mA t.mn t.mc) := rfl
  have hS : Sees w (w.alloc (Obj.cells t.c 34)) [(w.heap.size, Obj.cells t.c 34)] := (Sees.start w).alloc _
  skip
  go_enter Tryz.func45, Tryz.ntmps45
  go_wp2_with go_skip
  go_ret
  exact ⟨ret_bool hh.out.symm, hS.below⟩
set_option maxRecDepth 100000 in
set_option maxHeartbeats 1000000 in
theorem plain_2m (t : VT) (w : World) (hz : t.s.size ≤ 9223372036854775807) (hk : t.k = 2) (hs : (t.s.toList == []) = true) (hl : (t.ln == 0) = true) (hm : (t.mn == 0) = false)  : Calls Tryz.prog 45 #[.agg t.c] w fun e w' => e = .returned (.bool (plainT t)) ∧ Below w.heap.size w w' := by
  have hh : Hid (plainT t = false) := by unfold Hid; have hs0 : t.s.toList.isEmpty = true := (by cases hq : t.s.toList <;> simp_all); refine plain_own ?_; unfold ownV ownB; simp [hk, hs0, hl, hm]
  have a0 : t.c[0]? = some (.int .i64 2) := congrArg (fun x => some (Value.int .i64 x)) hk; have a1 : t.c[1]? = some (.int .i64 t.n) := rfl; have hsb : (t.s.toList != []) = false := congrArg (fun b => !b) hs; have hl2 : decide ((0 : Int) < t.ln) = false := (len_l hl).1; have hl3 : decide (0 < t.ln) = false := (len_l hl).2; have hm2 : decide ((0 : Int) < t.mn) = true := (len_l hm).1; have hm3 : decide (0 < t.mn) = true := (len_l hm).2
  have a2 : t.c[2]? = some (.string t.s) := rfl
  have a3 : t.c[3]? = some (.slice t.lA t.ln t.lc) := rfl
  have a4 : t.c[4]? = some (.slice t.mA t.mn t.mc) := rfl
  have hS : Sees w (w.alloc (Obj.cells t.c 34)) [(w.heap.size, Obj.cells t.c 34)] := (Sees.start w).alloc _
  skip
  go_enter Tryz.func45, Tryz.ntmps45
  go_wp2_with go_skip
  go_ret
  exact ⟨ret_bool hh.out.symm, hS.below⟩
set_option maxRecDepth 100000 in
set_option maxHeartbeats 1000000 in
theorem plain_2t (t : VT) (w : World) (hz : t.s.size ≤ 9223372036854775807) (hk : t.k = 2) (hs : (t.s.toList == []) = true) (hl : (t.ln == 0) = true) (hm : (t.mn == 0) = true)  : Calls Tryz.prog 45 #[.agg t.c] w fun e w' => e = .returned (.bool (plainT t)) ∧ Below w.heap.size w w' := by
  have hh : Hid (plainT t = true) := by unfold Hid; have hs0 : t.s.toList.isEmpty = true := (by cases hq : t.s.toList <;> simp_all); rw [plain_bare hl hm]; unfold ownV ownB; simp [hk, hs0, hl, hm]
  have a0 : t.c[0]? = some (.int .i64 2) := congrArg (fun x => some (Value.int .i64 x)) hk; have a1 : t.c[1]? = some (.int .i64 t.n) := rfl; have hsb : (t.s.toList != []) = false := congrArg (fun b => !b) hs; have hl2 : decide ((0 : Int) < t.ln) = false := (len_l hl).1; have hl3 : decide (0 < t.ln) = false := (len_l hl).2; have hm2 : decide ((0 : Int) < t.mn) = false := (len_l hm).1; have hm3 : decide (0 < t.mn) = false := (len_l hm).2
  have a2 : t.c[2]? = some (.string t.s) := rfl
  have a3 : t.c[3]? = some (.slice t.lA t.ln t.lc) := rfl
  have a4 : t.c[4]? = some (.slice t.mA t.mn t.mc) := rfl
  have hS : Sees w (w.alloc (Obj.cells t.c 34)) [(w.heap.size, Obj.cells t.c 34)] := (Sees.start w).alloc _
  skip
  go_enter Tryz.func45, Tryz.ntmps45
  go_wp2_with go_skip
  go_ret
  exact ⟨ret_bool hh.out.symm, hS.below⟩
set_option maxRecDepth 100000 in
set_option maxHeartbeats 1000000 in
theorem plain_3n (t : VT) (w : World) (hz : t.s.size ≤ 9223372036854775807) (hk : t.k = 3) (hn : (t.n == 0) = false)  : Calls Tryz.prog 45 #[.agg t.c] w fun e w' => e = .returned (.bool (plainT t)) ∧ Below w.heap.size w w' := by
  have hh : Hid (plainT t = false) := by unfold Hid; refine plain_own ?_; unfold ownV ownB; simp [hk, hn]
  have a0 : t.c[0]? = some (.int .i64 3) := congrArg (fun x => some (Value.int .i64 x)) hk; have a1 : t.c[1]? = some (.int .i64 t.n) := rfl; have hnb : (t.n != 0) = true := congrArg (fun b => !b) hn
  have a2 : t.c[2]? = some (.string t.s) := rfl
  have a3 : t.c[3]? = some (.slice t.lA t.ln t.lc) := rfl
  have a4 : t.c[4]? = some (.slice t.mA t.mn t.mc) := rfl
  have hS : Sees w (w.alloc (Obj.cells t.c 34)) [(w.heap.size, Obj.cells t.c 34)] := (Sees.start w).alloc _
  skip
  go_enter Tryz.func45, Tryz.ntmps45
  go_wp2_with go_skip
  go_ret
  exact ⟨ret_bool hh.out.symm, hS.below⟩
set_option maxRecDepth 100000 in
set_option maxHeartbeats 1000000 in
theorem plain_3l (t : VT) (w : World) (hz : t.s.size ≤ 9223372036854775807) (hk : t.k = 3) (hn : t.n = 0) (hl : (t.ln == 0) = false)  : Calls Tryz.prog 45 #[.agg t.c] w fun e w' => e = .returned (.bool (plainT t)) ∧ Below w.heap.size w w' := by
  have hh : Hid (plainT t = false) := by unfold Hid; refine plain_own ?_; unfold ownV ownB; simp [hk, hn, hl]
  have a0 : t.c[0]? = some (.int .i64 3) := congrArg (fun x => some (Value.int .i64 x)) hk; have a1 : t.c[1]? = some (.int .i64 0) := congrArg (fun x => some (Value.int .i64 x)) hn; have hl2 : decide ((0 : Int) < t.ln) = true := (len_l hl).1; have hl3 : decide (0 < t.ln) = true := (len_l hl).2
  have a2 : t.c[2]? = some (.string t.s) := rfl
  have a3 : t.c[3]? = some (.slice t.lA t.ln t.lc) := rfl
  have a4 : t.c[4]? = some (.slice t.mA t.mn t.mc) := rfl
  have hS : Sees w (w.alloc (Obj.cells t.c 34)) [(w.heap.size, Obj.cells t.c 34)] := (Sees.start w).alloc _
  skip
  go_enter Tryz.func45, Tryz.ntmps45
  go_wp2_with go_skip
  go_ret
  exact ⟨ret_bool hh.out.symm, hS.below⟩
set_option maxRecDepth 100000 in
set_option maxHeartbeats 1000000 in
theorem plain_3m (t : VT) (w : World) (hz : t.s.size ≤ 9223372036854775807) (hk : t.k = 3) (hn : t.n = 0) (hl : (t.ln == 0) = true) (hm : (t.mn == 0) = false)  : Calls Tryz.prog 45 #[.agg t.c] w fun e w' => e = .returned (.bool (plainT t)) ∧ Below w.heap.size w w' := by
  have hh : Hid (plainT t = false) := by unfold Hid; refine plain_own ?_; unfold ownV ownB; simp [hk, hn, hl, hm]
  have a0 : t.c[0]? = some (.int .i64 3) := congrArg (fun x => some (Value.int .i64 x)) hk; have a1 : t.c[1]? = some (.int .i64 0) := congrArg (fun x => some (Value.int .i64 x)) hn; have hl2 : decide ((0 : Int) < t.ln) = false := (len_l hl).1; have hl3 : decide (0 < t.ln) = false := (len_l hl).2; have hm2 : decide ((0 : Int) < t.mn) = true := (len_l hm).1; have hm3 : decide (0 < t.mn) = true := (len_l hm).2
  have a2 : t.c[2]? = some (.string t.s) := rfl
  have a3 : t.c[3]? = some (.slice t.lA t.ln t.lc) := rfl
  have a4 : t.c[4]? = some (.slice t.mA t.mn t.mc) := rfl
  have hS : Sees w (w.alloc (Obj.cells t.c 34)) [(w.heap.size, Obj.cells t.c 34)] := (Sees.start w).alloc _
  skip
  go_enter Tryz.func45, Tryz.ntmps45
  go_wp2_with go_skip
  go_ret
  exact ⟨ret_bool hh.out.symm, hS.below⟩
set_option maxRecDepth 100000 in
set_option maxHeartbeats 1000000 in
theorem plain_3a (t : VT) (w : World) (hz : t.s.size ≤ 9223372036854775807) (hk : t.k = 3) (hn : t.n = 0) (hl : (t.ln == 0) = true) (hm : (t.mn == 0) = true) (HI : Hid (∀ (s : ByteArray) (w : World), s.size ≤ 9223372036854775807 → Calls Tryz.prog 60 #[.string s] w fun e w' => (∃ r, e = .returned (.tuple #[.int .i64 r, .bool (intN s.data.toList).isSome])) ∧ Below w.heap.size w w')) (HG : Hid (∀ (s : ByteArray) (w : World), s.size ≤ 9223372036854775807 → Calls Tryz.prog 61 #[.string s] w fun e w' => e = .returned (.bool (goodN s.data.toList)) ∧ Below w.heap.size w w')) (hg : goodN t.s.data.toList = false)  : Calls Tryz.prog 45 #[.agg t.c] w fun e w' => e = .returned (.bool (plainT t)) ∧ Below w.heap.size w w' := by
  have hh : Hid (plainT t = false) := by unfold Hid; refine plain_own ?_; unfold ownV ownB; simp [hk, hn, hl, hm, hg]
  have a0 : t.c[0]? = some (.int .i64 3) := congrArg (fun x => some (Value.int .i64 x)) hk; have a1 : t.c[1]? = some (.int .i64 0) := congrArg (fun x => some (Value.int .i64 x)) hn; have hl2 : decide ((0 : Int) < t.ln) = false := (len_l hl).1; have hl3 : decide (0 < t.ln) = false := (len_l hl).2; have hm2 : decide ((0 : Int) < t.mn) = false := (len_l hm).1; have hm3 : decide (0 < t.mn) = false := (len_l hm).2
  have a2 : t.c[2]? = some (.string t.s) := rfl
  have a3 : t.c[3]? = some (.slice t.lA t.ln t.lc) := rfl
  have a4 : t.c[4]? = some (.slice t.mA t.mn t.mc) := rfl
  have hS : Sees w (w.alloc (Obj.cells t.c 34)) [(w.heap.size, Obj.cells t.c 34)] := (Sees.start w).alloc _
  skip
  go_enter Tryz.func45, Tryz.ntmps45
  go_wp2_with (first | go_skip | (go_at_call 60; with_reducible (refine (HI.out _ _ hz).mono ?_); rintro e wn ⟨⟨r, rfl⟩, hbn⟩; have hS1 := hS.step hbn; clear hS hbn; have hS := hS1; clear hS1; have c1 : wn.cell? ⟨w.heap.size, 1, none⟩ = some (.int .i64 t.n) := cell_of_row _ _ _ _ _ _ hS.g0; have c2 : wn.cell? ⟨w.heap.size, 2, none⟩ = some (.string t.s) := cell_of_row _ _ _ _ _ _ hS.g0) | (go_at_call 61; with_reducible (refine (HG.out _ _ hz).mono ?_); rintro e wn ⟨rfl, hbn⟩; have hS1 := hS.step hbn; clear hS hbn; have hS := hS1; clear hS1; have c1 : wn.cell? ⟨w.heap.size, 1, none⟩ = some (.int .i64 t.n) := cell_of_row _ _ _ _ _ _ hS.g0; have c2 : wn.cell? ⟨w.heap.size, 2, none⟩ = some (.string t.s) := cell_of_row _ _ _ _ _ _ hS.g0))
  go_ret
  exact ⟨ret_bool hh.out.symm, hS.below⟩
set_option maxRecDepth 100000 in
set_option maxHeartbeats 1000000 in
theorem plain_3b (t : VT) (w : World) (hz : t.s.size ≤ 9223372036854775807) (hk : t.k = 3) (hn : t.n = 0) (hl : (t.ln == 0) = true) (hm : (t.mn == 0) = true) (HI : Hid (∀ (s : ByteArray) (w : World), s.size ≤ 9223372036854775807 → Calls Tryz.prog 60 #[.string s] w fun e w' => (∃ r, e = .returned (.tuple #[.int .i64 r, .bool (intN s.data.toList).isSome])) ∧ Below w.heap.size w w')) (HG : Hid (∀ (s : ByteArray) (w : World), s.size ≤ 9223372036854775807 → Calls Tryz.prog 61 #[.string s] w fun e w' => e = .returned (.bool (goodN s.data.toList)) ∧ Below w.heap.size w w')) (hg : goodN t.s.data.toList = true)  : Calls Tryz.prog 45 #[.agg t.c] w fun e w' => e = .returned (.bool (plainT t)) ∧ Below w.heap.size w w' := by
  have hh : Hid (plainT t = (intN t.s.data.toList).isNone) := by unfold Hid; rw [plain_bare hl hm]; unfold ownV ownB; simp [hk, hn, hl, hm, hg]
  have a0 : t.c[0]? = some (.int .i64 3) := congrArg (fun x => some (Value.int .i64 x)) hk; have a1 : t.c[1]? = some (.int .i64 0) := congrArg (fun x => some (Value.int .i64 x)) hn; have hl2 : decide ((0 : Int) < t.ln) = false := (len_l hl).1; have hl3 : decide (0 < t.ln) = false := (len_l hl).2; have hm2 : decide ((0 : Int) < t.mn) = false := (len_l hm).1; have hm3 : decide (0 < t.mn) = false := (len_l hm).2
  have a2 : t.c[2]? = some (.string t.s) := rfl
  have a3 : t.c[3]? = some (.slice t.lA t.ln t.lc) := rfl
  have a4 : t.c[4]? = some (.slice t.mA t.mn t.mc) := rfl
  have hS : Sees w (w.alloc (Obj.cells t.c 34)) [(w.heap.size, Obj.cells t.c 34)] := (Sees.start w).alloc _
  skip
  go_enter Tryz.func45, Tryz.ntmps45
  go_wp2_with (first | go_skip | (go_at_call 60; with_reducible (refine (HI.out _ _ hz).mono ?_); rintro e wn ⟨⟨r, rfl⟩, hbn⟩; have hS1 := hS.step hbn; clear hS hbn; have hS := hS1; clear hS1; have c1 : wn.cell? ⟨w.heap.size, 1, none⟩ = some (.int .i64 t.n) := cell_of_row _ _ _ _ _ _ hS.g0; have c2 : wn.cell? ⟨w.heap.size, 2, none⟩ = some (.string t.s) := cell_of_row _ _ _ _ _ _ hS.g0) | (go_at_call 61; with_reducible (refine (HG.out _ _ hz).mono ?_); rintro e wn ⟨rfl, hbn⟩; have hS1 := hS.step hbn; clear hS hbn; have hS := hS1; clear hS1; have c1 : wn.cell? ⟨w.heap.size, 1, none⟩ = some (.int .i64 t.n) := cell_of_row _ _ _ _ _ _ hS.g0; have c2 : wn.cell? ⟨w.heap.size, 2, none⟩ = some (.string t.s) := cell_of_row _ _ _ _ _ _ hS.g0))
  go_ret
  exact ⟨ret_bool hh.out.symm, hS.below⟩
set_option maxRecDepth 100000 in
set_option maxHeartbeats 1000000 in
theorem plain_4n (t : VT) (w : World) (hz : t.s.size ≤ 9223372036854775807) (hk : t.k = 4) (hn : (t.n == 0) = false)  : Calls Tryz.prog 45 #[.agg t.c] w fun e w' => e = .returned (.bool (plainT t)) ∧ Below w.heap.size w w' := by
  have hh : Hid (plainT t = false) := by unfold Hid; refine plain_own ?_; unfold ownV ownB; simp [hk, hn]
  have a0 : t.c[0]? = some (.int .i64 4) := congrArg (fun x => some (Value.int .i64 x)) hk; have a1 : t.c[1]? = some (.int .i64 t.n) := rfl; have hnb : (t.n != 0) = true := congrArg (fun b => !b) hn
  have a2 : t.c[2]? = some (.string t.s) := rfl
  have a3 : t.c[3]? = some (.slice t.lA t.ln t.lc) := rfl
  have a4 : t.c[4]? = some (.slice t.mA t.mn t.mc) := rfl
  have hS : Sees w (w.alloc (Obj.cells t.c 34)) [(w.heap.size, Obj.cells t.c 34)] := (Sees.start w).alloc _
  skip
  go_enter Tryz.func45, Tryz.ntmps45
  go_wp2_with go_skip
  go_ret
  exact ⟨ret_bool hh.out.symm, hS.below⟩
set_option maxRecDepth 100000 in
set_option maxHeartbeats 1000000 in
theorem plain_4l (t : VT) (w : World) (hz : t.s.size ≤ 9223372036854775807) (hk : t.k = 4) (hn : t.n = 0) (hl : (t.ln == 0) = false)  : Calls Tryz.prog 45 #[.agg t.c] w fun e w' => e = .returned (.bool (plainT t)) ∧ Below w.heap.size w w' := by
  have hh : Hid (plainT t = false) := by unfold Hid; refine plain_own ?_; unfold ownV ownB; simp [hk, hn, hl]
  have a0 : t.c[0]? = some (.int .i64 4) := congrArg (fun x => some (Value.int .i64 x)) hk; have a1 : t.c[1]? = some (.int .i64 0) := congrArg (fun x => some (Value.int .i64 x)) hn; have hl2 : decide ((0 : Int) < t.ln) = true := (len_l hl).1; have hl3 : decide (0 < t.ln) = true := (len_l hl).2
  have a2 : t.c[2]? = some (.string t.s) := rfl
  have a3 : t.c[3]? = some (.slice t.lA t.ln t.lc) := rfl
  have a4 : t.c[4]? = some (.slice t.mA t.mn t.mc) := rfl
  have hS : Sees w (w.alloc (Obj.cells t.c 34)) [(w.heap.size, Obj.cells t.c 34)] := (Sees.start w).alloc _
  skip
  go_enter Tryz.func45, Tryz.ntmps45
  go_wp2_with go_skip
  go_ret
  exact ⟨ret_bool hh.out.symm, hS.below⟩
set_option maxRecDepth 100000 in
set_option maxHeartbeats 1000000 in
theorem plain_4m (t : VT) (w : World) (hz : t.s.size ≤ 9223372036854775807) (hk : t.k = 4) (hn : t.n = 0) (hl : (t.ln == 0) = true) (hm : (t.mn == 0) = false)  : Calls Tryz.prog 45 #[.agg t.c] w fun e w' => e = .returned (.bool (plainT t)) ∧ Below w.heap.size w w' := by
  have hh : Hid (plainT t = false) := by unfold Hid; refine plain_own ?_; unfold ownV ownB; simp [hk, hn, hl, hm]
  have a0 : t.c[0]? = some (.int .i64 4) := congrArg (fun x => some (Value.int .i64 x)) hk; have a1 : t.c[1]? = some (.int .i64 0) := congrArg (fun x => some (Value.int .i64 x)) hn; have hl2 : decide ((0 : Int) < t.ln) = false := (len_l hl).1; have hl3 : decide (0 < t.ln) = false := (len_l hl).2; have hm2 : decide ((0 : Int) < t.mn) = true := (len_l hm).1; have hm3 : decide (0 < t.mn) = true := (len_l hm).2
  have a2 : t.c[2]? = some (.string t.s) := rfl
  have a3 : t.c[3]? = some (.slice t.lA t.ln t.lc) := rfl
  have a4 : t.c[4]? = some (.slice t.mA t.mn t.mc) := rfl
  have hS : Sees w (w.alloc (Obj.cells t.c 34)) [(w.heap.size, Obj.cells t.c 34)] := (Sees.start w).alloc _
  skip
  go_enter Tryz.func45, Tryz.ntmps45
  go_wp2_with go_skip
  go_ret
  exact ⟨ret_bool hh.out.symm, hS.below⟩
set_option maxRecDepth 100000 in
set_option maxHeartbeats 1000000 in
theorem plain_4t (t : VT) (w : World) (hz : t.s.size ≤ 9223372036854775807) (hk : t.k = 4) (hn : t.n = 0) (hl : (t.ln == 0) = true) (hm : (t.mn == 0) = true) (HL : Hid (∀ (s : ByteArray) (w : World), Calls Tryz.prog 20 #[.string s] w fun e w' => e = .returned (.bool (letC s == 0)) ∧ Below w.heap.size w w'))  : Calls Tryz.prog 45 #[.agg t.c] w fun e w' => e = .returned (.bool (plainT t)) ∧ Below w.heap.size w w' := by
  have hh : Hid (plainT t = (letC t.s == 0)) := by unfold Hid; rw [plain_bare hl hm]; unfold ownV ownB; simp [hk, hn, hl, hm]
  have a0 : t.c[0]? = some (.int .i64 4) := congrArg (fun x => some (Value.int .i64 x)) hk; have a1 : t.c[1]? = some (.int .i64 0) := congrArg (fun x => some (Value.int .i64 x)) hn; have hl2 : decide ((0 : Int) < t.ln) = false := (len_l hl).1; have hl3 : decide (0 < t.ln) = false := (len_l hl).2; have hm2 : decide ((0 : Int) < t.mn) = false := (len_l hm).1; have hm3 : decide (0 < t.mn) = false := (len_l hm).2
  have a2 : t.c[2]? = some (.string t.s) := rfl
  have a3 : t.c[3]? = some (.slice t.lA t.ln t.lc) := rfl
  have a4 : t.c[4]? = some (.slice t.mA t.mn t.mc) := rfl
  have hS : Sees w (w.alloc (Obj.cells t.c 34)) [(w.heap.size, Obj.cells t.c 34)] := (Sees.start w).alloc _
  skip
  go_enter Tryz.func45, Tryz.ntmps45
  go_wp2_with (first | go_skip | (go_at_call 20; with_reducible (refine (HL.out _ _).mono ?_); rintro e wn ⟨rfl, hbn⟩; have hS1 := hS.step hbn; clear hS hbn; have hS := hS1; clear hS1; have c1 : wn.cell? ⟨w.heap.size, 1, none⟩ = some (.int .i64 t.n) := cell_of_row _ _ _ _ _ _ hS.g0; have c2 : wn.cell? ⟨w.heap.size, 2, none⟩ = some (.string t.s) := cell_of_row _ _ _ _ _ _ hS.g0))
  go_ret
  exact ⟨ret_bool hh.out.symm, hS.below⟩
set_option maxRecDepth 100000 in
set_option maxHeartbeats 1000000 in
theorem plain_7n (t : VT) (w : World) (hz : t.s.size ≤ 9223372036854775807) (hk : t.k = 7) (hn : (t.n == 0) = false)  : Calls Tryz.prog 45 #[.agg t.c] w fun e w' => e = .returned (.bool (plainT t)) ∧ Below w.heap.size w w' := by
  have hh : Hid (plainT t = false) := by unfold Hid; refine plain_own ?_; unfold ownV ownB; simp [hk, hn]
  have a0 : t.c[0]? = some (.int .i64 7) := congrArg (fun x => some (Value.int .i64 x)) hk; have a1 : t.c[1]? = some (.int .i64 t.n) := rfl; have hnb : (t.n != 0) = true := congrArg (fun b => !b) hn
  have a2 : t.c[2]? = some (.string t.s) := rfl
  have a3 : t.c[3]? = some (.slice t.lA t.ln t.lc) := rfl
  have a4 : t.c[4]? = some (.slice t.mA t.mn t.mc) := rfl
  have hS : Sees w (w.alloc (Obj.cells t.c 34)) [(w.heap.size, Obj.cells t.c 34)] := (Sees.start w).alloc _
  skip
  go_enter Tryz.func45, Tryz.ntmps45
  go_wp2_with go_skip
  go_ret
  exact ⟨ret_bool hh.out.symm, hS.below⟩
set_option maxRecDepth 100000 in
set_option maxHeartbeats 1000000 in
theorem plain_7l (t : VT) (w : World) (hz : t.s.size ≤ 9223372036854775807) (hk : t.k = 7) (hn : t.n = 0) (hl : (t.ln == 0) = false)  : Calls Tryz.prog 45 #[.agg t.c] w fun e w' => e = .returned (.bool (plainT t)) ∧ Below w.heap.size w w' := by
  have hh : Hid (plainT t = false) := by unfold Hid; refine plain_own ?_; unfold ownV ownB; simp [hk, hn, hl]
  have a0 : t.c[0]? = some (.int .i64 7) := congrArg (fun x => some (Value.int .i64 x)) hk; have a1 : t.c[1]? = some (.int .i64 0) := congrArg (fun x => some (Value.int .i64 x)) hn; have hl2 : decide ((0 : Int) < t.ln) = true := (len_l hl).1; have hl3 : decide (0 < t.ln) = true := (len_l hl).2
  have a2 : t.c[2]? = some (.string t.s) := rfl
  have a3 : t.c[3]? = some (.slice t.lA t.ln t.lc) := rfl
  have a4 : t.c[4]? = some (.slice t.mA t.mn t.mc) := rfl
  have hS : Sees w (w.alloc (Obj.cells t.c 34)) [(w.heap.size, Obj.cells t.c 34)] := (Sees.start w).alloc _
  skip
  go_enter Tryz.func45, Tryz.ntmps45
  go_wp2_with go_skip
  go_ret
  exact ⟨ret_bool hh.out.symm, hS.below⟩
set_option maxRecDepth 100000 in
set_option maxHeartbeats 1000000 in
theorem plain_7m (t : VT) (w : World) (hz : t.s.size ≤ 9223372036854775807) (hk : t.k = 7) (hn : t.n = 0) (hl : (t.ln == 0) = true) (hm : (t.mn == 0) = false)  : Calls Tryz.prog 45 #[.agg t.c] w fun e w' => e = .returned (.bool (plainT t)) ∧ Below w.heap.size w w' := by
  have hh : Hid (plainT t = false) := by unfold Hid; refine plain_own ?_; unfold ownV ownB; simp [hk, hn, hl, hm]
  have a0 : t.c[0]? = some (.int .i64 7) := congrArg (fun x => some (Value.int .i64 x)) hk; have a1 : t.c[1]? = some (.int .i64 0) := congrArg (fun x => some (Value.int .i64 x)) hn; have hl2 : decide ((0 : Int) < t.ln) = false := (len_l hl).1; have hl3 : decide (0 < t.ln) = false := (len_l hl).2; have hm2 : decide ((0 : Int) < t.mn) = true := (len_l hm).1; have hm3 : decide (0 < t.mn) = true := (len_l hm).2
  have a2 : t.c[2]? = some (.string t.s) := rfl
  have a3 : t.c[3]? = some (.slice t.lA t.ln t.lc) := rfl
  have a4 : t.c[4]? = some (.slice t.mA t.mn t.mc) := rfl
  have hS : Sees w (w.alloc (Obj.cells t.c 34)) [(w.heap.size, Obj.cells t.c 34)] := (Sees.start w).alloc _
  skip
  go_enter Tryz.func45, Tryz.ntmps45
  go_wp2_with go_skip
  go_ret
  exact ⟨ret_bool hh.out.symm, hS.below⟩
set_option maxRecDepth 100000 in
set_option maxHeartbeats 1000000 in
theorem plain_7t (t : VT) (w : World) (hz : t.s.size ≤ 9223372036854775807) (hk : t.k = 7) (hn : t.n = 0) (hl : (t.ln == 0) = true) (hm : (t.mn == 0) = true) (HS : Hid (∀ (s : ByteArray) (w : World), s.size ≤ 9223372036854775807 → Calls Tryz.prog 62 #[.string s] w fun e w' => e = .returned (.bool (stampB s)) ∧ Below w.heap.size w w'))  : Calls Tryz.prog 45 #[.agg t.c] w fun e w' => e = .returned (.bool (plainT t)) ∧ Below w.heap.size w w' := by
  have hh : Hid (plainT t = stampB t.s) := by unfold Hid; rw [plain_bare hl hm]; unfold ownV ownB; simp [hk, hn, hl, hm]
  have a0 : t.c[0]? = some (.int .i64 7) := congrArg (fun x => some (Value.int .i64 x)) hk; have a1 : t.c[1]? = some (.int .i64 0) := congrArg (fun x => some (Value.int .i64 x)) hn; have hl2 : decide ((0 : Int) < t.ln) = false := (len_l hl).1; have hl3 : decide (0 < t.ln) = false := (len_l hl).2; have hm2 : decide ((0 : Int) < t.mn) = false := (len_l hm).1; have hm3 : decide (0 < t.mn) = false := (len_l hm).2
  have a2 : t.c[2]? = some (.string t.s) := rfl
  have a3 : t.c[3]? = some (.slice t.lA t.ln t.lc) := rfl
  have a4 : t.c[4]? = some (.slice t.mA t.mn t.mc) := rfl
  have hS : Sees w (w.alloc (Obj.cells t.c 34)) [(w.heap.size, Obj.cells t.c 34)] := (Sees.start w).alloc _
  skip
  go_enter Tryz.func45, Tryz.ntmps45
  go_wp2_with (first | go_skip | (go_at_call 62; with_reducible (refine (HS.out _ _ hz).mono ?_); rintro e wn ⟨rfl, hbn⟩; have hS1 := hS.step hbn; clear hS hbn; have hS := hS1; clear hS1; have c1 : wn.cell? ⟨w.heap.size, 1, none⟩ = some (.int .i64 t.n) := cell_of_row _ _ _ _ _ _ hS.g0; have c2 : wn.cell? ⟨w.heap.size, 2, none⟩ = some (.string t.s) := cell_of_row _ _ _ _ _ _ hS.g0))
  go_ret
  exact ⟨ret_bool hh.out.symm, hS.below⟩
set_option maxRecDepth 100000 in
set_option maxHeartbeats 1000000 in
theorem plain_5n (t : VT) (w : World) (hz : t.s.size ≤ 9223372036854775807) (hk : t.k = 5) (hn : (t.n == 0) = false)  : Calls Tryz.prog 45 #[.agg t.c] w fun e w' => e = .returned (.bool (plainT t)) ∧ Below w.heap.size w w' := by
  have hh : Hid (plainT t = false) := by unfold Hid; refine plain_own ?_; unfold ownV ownB; simp [hk, hn]
  have a0 : t.c[0]? = some (.int .i64 5) := congrArg (fun x => some (Value.int .i64 x)) hk; have a1 : t.c[1]? = some (.int .i64 t.n) := rfl; have hnb : (t.n != 0) = true := congrArg (fun b => !b) hn
  have a2 : t.c[2]? = some (.string t.s) := rfl
  have a3 : t.c[3]? = some (.slice t.lA t.ln t.lc) := rfl
  have a4 : t.c[4]? = some (.slice t.mA t.mn t.mc) := rfl
  have hS : Sees w (w.alloc (Obj.cells t.c 34)) [(w.heap.size, Obj.cells t.c 34)] := (Sees.start w).alloc _
  skip
  go_enter Tryz.func45, Tryz.ntmps45
  go_wp2_with go_skip
  go_ret
  exact ⟨ret_bool hh.out.symm, hS.below⟩
set_option maxRecDepth 100000 in
set_option maxHeartbeats 1000000 in
theorem plain_5s (t : VT) (w : World) (hz : t.s.size ≤ 9223372036854775807) (hk : t.k = 5) (hn : t.n = 0) (hs : (t.s.toList == []) = false)  : Calls Tryz.prog 45 #[.agg t.c] w fun e w' => e = .returned (.bool (plainT t)) ∧ Below w.heap.size w w' := by
  have hh : Hid (plainT t = false) := by unfold Hid; have hs0 : t.s.toList.isEmpty = false := (by cases hq : t.s.toList <;> simp_all); refine plain_own ?_; unfold ownV ownB; simp [hk, hn, hs0]
  have a0 : t.c[0]? = some (.int .i64 5) := congrArg (fun x => some (Value.int .i64 x)) hk; have a1 : t.c[1]? = some (.int .i64 0) := congrArg (fun x => some (Value.int .i64 x)) hn; have hsb : (t.s.toList != []) = true := congrArg (fun b => !b) hs
  have a2 : t.c[2]? = some (.string t.s) := rfl
  have a3 : t.c[3]? = some (.slice t.lA t.ln t.lc) := rfl
  have a4 : t.c[4]? = some (.slice t.mA t.mn t.mc) := rfl
  have hS : Sees w (w.alloc (Obj.cells t.c 34)) [(w.heap.size, Obj.cells t.c 34)] := (Sees.start w).alloc _
  skip
  go_enter Tryz.func45, Tryz.ntmps45
  go_wp2_with go_skip
  go_ret
  exact ⟨ret_bool hh.out.symm, hS.below⟩
set_option maxRecDepth 100000 in
set_option maxHeartbeats 1000000 in
theorem plain_5m (t : VT) (w : World) (hz : t.s.size ≤ 9223372036854775807) (hk : t.k = 5) (hn : t.n = 0) (hs : (t.s.toList == []) = true) (hm : (t.mn == 0) = false)  : Calls Tryz.prog 45 #[.agg t.c] w fun e w' => e = .returned (.bool (plainT t)) ∧ Below w.heap.size w w' := by
  have hh : Hid (plainT t = false) := by unfold Hid; have hs0 : t.s.toList.isEmpty = true := (by cases hq : t.s.toList <;> simp_all); refine plain_own ?_; unfold ownV ownB; simp [hk, hn, hs0, hm]
  have a0 : t.c[0]? = some (.int .i64 5) := congrArg (fun x => some (Value.int .i64 x)) hk; have a1 : t.c[1]? = some (.int .i64 0) := congrArg (fun x => some (Value.int .i64 x)) hn; have hsb : (t.s.toList != []) = false := congrArg (fun b => !b) hs; have hm2 : decide ((0 : Int) < t.mn) = true := (len_l hm).1; have hm3 : decide (0 < t.mn) = true := (len_l hm).2
  have a2 : t.c[2]? = some (.string t.s) := rfl
  have a3 : t.c[3]? = some (.slice t.lA t.ln t.lc) := rfl
  have a4 : t.c[4]? = some (.slice t.mA t.mn t.mc) := rfl
  have hS : Sees w (w.alloc (Obj.cells t.c 34)) [(w.heap.size, Obj.cells t.c 34)] := (Sees.start w).alloc _
  skip
  go_enter Tryz.func45, Tryz.ntmps45
  go_wp2_with go_skip
  go_ret
  exact ⟨ret_bool hh.out.symm, hS.below⟩
set_option maxRecDepth 100000 in
set_option maxHeartbeats 1000000 in
theorem plain_6n (t : VT) (w : World) (hz : t.s.size ≤ 9223372036854775807) (hk : t.k = 6) (hn : (t.n == 0) = false)  : Calls Tryz.prog 45 #[.agg t.c] w fun e w' => e = .returned (.bool (plainT t)) ∧ Below w.heap.size w w' := by
  have hh : Hid (plainT t = false) := by unfold Hid; refine plain_own ?_; unfold ownV ownB; simp [hk, hn]
  have a0 : t.c[0]? = some (.int .i64 6) := congrArg (fun x => some (Value.int .i64 x)) hk; have a1 : t.c[1]? = some (.int .i64 t.n) := rfl; have hnb : (t.n != 0) = true := congrArg (fun b => !b) hn
  have a2 : t.c[2]? = some (.string t.s) := rfl
  have a3 : t.c[3]? = some (.slice t.lA t.ln t.lc) := rfl
  have a4 : t.c[4]? = some (.slice t.mA t.mn t.mc) := rfl
  have hS : Sees w (w.alloc (Obj.cells t.c 34)) [(w.heap.size, Obj.cells t.c 34)] := (Sees.start w).alloc _
  skip
  go_enter Tryz.func45, Tryz.ntmps45
  go_wp2_with go_skip
  go_ret
  exact ⟨ret_bool hh.out.symm, hS.below⟩
set_option maxRecDepth 100000 in
set_option maxHeartbeats 1000000 in
theorem plain_6s (t : VT) (w : World) (hz : t.s.size ≤ 9223372036854775807) (hk : t.k = 6) (hn : t.n = 0) (hs : (t.s.toList == []) = false)  : Calls Tryz.prog 45 #[.agg t.c] w fun e w' => e = .returned (.bool (plainT t)) ∧ Below w.heap.size w w' := by
  have hh : Hid (plainT t = false) := by unfold Hid; have hs0 : t.s.toList.isEmpty = false := (by cases hq : t.s.toList <;> simp_all); refine plain_own ?_; unfold ownV ownB; simp [hk, hn, hs0]
  have a0 : t.c[0]? = some (.int .i64 6) := congrArg (fun x => some (Value.int .i64 x)) hk; have a1 : t.c[1]? = some (.int .i64 0) := congrArg (fun x => some (Value.int .i64 x)) hn; have hsb : (t.s.toList != []) = true := congrArg (fun b => !b) hs
  have a2 : t.c[2]? = some (.string t.s) := rfl
  have a3 : t.c[3]? = some (.slice t.lA t.ln t.lc) := rfl
  have a4 : t.c[4]? = some (.slice t.mA t.mn t.mc) := rfl
  have hS : Sees w (w.alloc (Obj.cells t.c 34)) [(w.heap.size, Obj.cells t.c 34)] := (Sees.start w).alloc _
  skip
  go_enter Tryz.func45, Tryz.ntmps45
  go_wp2_with go_skip
  go_ret
  exact ⟨ret_bool hh.out.symm, hS.below⟩
set_option maxRecDepth 100000 in
set_option maxHeartbeats 1000000 in
theorem plain_6l (t : VT) (w : World) (hz : t.s.size ≤ 9223372036854775807) (hk : t.k = 6) (hn : t.n = 0) (hs : (t.s.toList == []) = true) (hl : (t.ln == 0) = false)  : Calls Tryz.prog 45 #[.agg t.c] w fun e w' => e = .returned (.bool (plainT t)) ∧ Below w.heap.size w w' := by
  have hh : Hid (plainT t = false) := by unfold Hid; have hs0 : t.s.toList.isEmpty = true := (by cases hq : t.s.toList <;> simp_all); refine plain_own ?_; unfold ownV ownB; simp [hk, hn, hs0, hl]
  have a0 : t.c[0]? = some (.int .i64 6) := congrArg (fun x => some (Value.int .i64 x)) hk; have a1 : t.c[1]? = some (.int .i64 0) := congrArg (fun x => some (Value.int .i64 x)) hn; have hsb : (t.s.toList != []) = false := congrArg (fun b => !b) hs; have hl2 : decide ((0 : Int) < t.ln) = true := (len_l hl).1; have hl3 : decide (0 < t.ln) = true := (len_l hl).2
  have a2 : t.c[2]? = some (.string t.s) := rfl
  have a3 : t.c[3]? = some (.slice t.lA t.ln t.lc) := rfl
  have a4 : t.c[4]? = some (.slice t.mA t.mn t.mc) := rfl
  have hS : Sees w (w.alloc (Obj.cells t.c 34)) [(w.heap.size, Obj.cells t.c 34)] := (Sees.start w).alloc _
  skip
  go_enter Tryz.func45, Tryz.ntmps45
  go_wp2_with go_skip
  go_ret
  exact ⟨ret_bool hh.out.symm, hS.below⟩
set_option maxRecDepth 100000 in
set_option maxHeartbeats 1000000 in
theorem plain_xn (t : VT) (w : World) (hz : t.s.size ≤ 9223372036854775807) (h0 : (t.k == 0) = false) (h1 : (t.k == 1) = false) (h2 : (t.k == 2) = false) (h3 : (t.k == 3) = false) (h4 : (t.k == 4) = false) (h5 : (t.k == 5) = false) (h6 : (t.k == 6) = false) (h7 : (t.k == 7) = false) (hn : (t.n == 0) = false)  : Calls Tryz.prog 45 #[.agg t.c] w fun e w' => e = .returned (.bool (plainT t)) ∧ Below w.heap.size w w' := by
  have hh : Hid (plainT t = false) := by unfold Hid; refine plain_own ?_; unfold ownV ownB; simp [h0, h1, h2, h3, h4, h5, h6, h7, hn]
  have a0 : t.c[0]? = some (.int .i64 t.k) := rfl; have g0 : (t.k != 0) = true := congrArg (fun b => !b) h0; have g1 : (t.k != 1) = true := congrArg (fun b => !b) h1; have g2 : (t.k != 2) = true := congrArg (fun b => !b) h2; have g3 : (t.k != 3) = true := congrArg (fun b => !b) h3; have g4 : (t.k != 4) = true := congrArg (fun b => !b) h4; have g5 : (t.k != 5) = true := congrArg (fun b => !b) h5; have g6 : (t.k != 6) = true := congrArg (fun b => !b) h6; have g7 : (t.k != 7) = true := congrArg (fun b => !b) h7; have a1 : t.c[1]? = some (.int .i64 t.n) := rfl; have hnb : (t.n != 0) = true := congrArg (fun b => !b) hn
  have a2 : t.c[2]? = some (.string t.s) := rfl
  have a3 : t.c[3]? = some (.slice t.lA t.ln t.lc) := rfl
  have a4 : t.c[4]? = some (.slice t.mA t.mn t.mc) := rfl
  have hS : Sees w (w.alloc (Obj.cells t.c 34)) [(w.heap.size, Obj.cells t.c 34)] := (Sees.start w).alloc _
  skip
  go_enter Tryz.func45, Tryz.ntmps45
  go_wp2_with go_skip
  go_ret
  exact ⟨ret_bool hh.out.symm, hS.below⟩
set_option maxRecDepth 100000 in
set_option maxHeartbeats 1000000 in
theorem plain_xs (t : VT) (w : World) (hz : t.s.size ≤ 9223372036854775807) (h0 : (t.k == 0) = false) (h1 : (t.k == 1) = false) (h2 : (t.k == 2) = false) (h3 : (t.k == 3) = false) (h4 : (t.k == 4) = false) (h5 : (t.k == 5) = false) (h6 : (t.k == 6) = false) (h7 : (t.k == 7) = false) (hn : t.n = 0) (hs : (t.s.toList == []) = false)  : Calls Tryz.prog 45 #[.agg t.c] w fun e w' => e = .returned (.bool (plainT t)) ∧ Below w.heap.size w w' := by
  have hh : Hid (plainT t = false) := by unfold Hid; have hs0 : t.s.toList.isEmpty = false := (by cases hq : t.s.toList <;> simp_all); refine plain_own ?_; unfold ownV ownB; simp [h0, h1, h2, h3, h4, h5, h6, h7, hn, hs0]
  have a0 : t.c[0]? = some (.int .i64 t.k) := rfl; have g0 : (t.k != 0) = true := congrArg (fun b => !b) h0; have g1 : (t.k != 1) = true := congrArg (fun b => !b) h1; have g2 : (t.k != 2) = true := congrArg (fun b => !b) h2; have g3 : (t.k != 3) = true := congrArg (fun b => !b) h3; have g4 : (t.k != 4) = true := congrArg (fun b => !b) h4; have g5 : (t.k != 5) = true := congrArg (fun b => !b) h5; have g6 : (t.k != 6) = true := congrArg (fun b => !b) h6; have g7 : (t.k != 7) = true := congrArg (fun b => !b) h7; have a1 : t.c[1]? = some (.int .i64 0) := congrArg (fun x => some (Value.int .i64 x)) hn; have hsb : (t.s.toList != []) = true := congrArg (fun b => !b) hs
  have a2 : t.c[2]? = some (.string t.s) := rfl
  have a3 : t.c[3]? = some (.slice t.lA t.ln t.lc) := rfl
  have a4 : t.c[4]? = some (.slice t.mA t.mn t.mc) := rfl
  have hS : Sees w (w.alloc (Obj.cells t.c 34)) [(w.heap.size, Obj.cells t.c 34)] := (Sees.start w).alloc _
  skip
  go_enter Tryz.func45, Tryz.ntmps45
  go_wp2_with go_skip
  go_ret
  exact ⟨ret_bool hh.out.symm, hS.below⟩
set_option maxRecDepth 100000 in
set_option maxHeartbeats 1000000 in
theorem plain_xl (t : VT) (w : World) (hz : t.s.size ≤ 9223372036854775807) (h0 : (t.k == 0) = false) (h1 : (t.k == 1) = false) (h2 : (t.k == 2) = false) (h3 : (t.k == 3) = false) (h4 : (t.k == 4) = false) (h5 : (t.k == 5) = false) (h6 : (t.k == 6) = false) (h7 : (t.k == 7) = false) (hn : t.n = 0) (hs : (t.s.toList == []) = true) (hl : (t.ln == 0) = false)  : Calls Tryz.prog 45 #[.agg t.c] w fun e w' => e = .returned (.bool (plainT t)) ∧ Below w.heap.size w w' := by
  have hh : Hid (plainT t = false) := by unfold Hid; have hs0 : t.s.toList.isEmpty = true := (by cases hq : t.s.toList <;> simp_all); refine plain_own ?_; unfold ownV ownB; simp [h0, h1, h2, h3, h4, h5, h6, h7, hn, hs0, hl]
  have a0 : t.c[0]? = some (.int .i64 t.k) := rfl; have g0 : (t.k != 0) = true := congrArg (fun b => !b) h0; have g1 : (t.k != 1) = true := congrArg (fun b => !b) h1; have g2 : (t.k != 2) = true := congrArg (fun b => !b) h2; have g3 : (t.k != 3) = true := congrArg (fun b => !b) h3; have g4 : (t.k != 4) = true := congrArg (fun b => !b) h4; have g5 : (t.k != 5) = true := congrArg (fun b => !b) h5; have g6 : (t.k != 6) = true := congrArg (fun b => !b) h6; have g7 : (t.k != 7) = true := congrArg (fun b => !b) h7; have a1 : t.c[1]? = some (.int .i64 0) := congrArg (fun x => some (Value.int .i64 x)) hn; have hsb : (t.s.toList != []) = false := congrArg (fun b => !b) hs; have hl2 : decide ((0 : Int) < t.ln) = true := (len_l hl).1; have hl3 : decide (0 < t.ln) = true := (len_l hl).2
  have a2 : t.c[2]? = some (.string t.s) := rfl
  have a3 : t.c[3]? = some (.slice t.lA t.ln t.lc) := rfl
  have a4 : t.c[4]? = some (.slice t.mA t.mn t.mc) := rfl
  have hS : Sees w (w.alloc (Obj.cells t.c 34)) [(w.heap.size, Obj.cells t.c 34)] := (Sees.start w).alloc _
  skip
  go_enter Tryz.func45, Tryz.ntmps45
  go_wp2_with go_skip
  go_ret
  exact ⟨ret_bool hh.out.symm, hS.below⟩
set_option maxRecDepth 100000 in
set_option maxHeartbeats 1000000 in
theorem plain_xm (t : VT) (w : World) (hz : t.s.size ≤ 9223372036854775807) (h0 : (t.k == 0) = false) (h1 : (t.k == 1) = false) (h2 : (t.k == 2) = false) (h3 : (t.k == 3) = false) (h4 : (t.k == 4) = false) (h5 : (t.k == 5) = false) (h6 : (t.k == 6) = false) (h7 : (t.k == 7) = false) (hn : t.n = 0) (hs : (t.s.toList == []) = true) (hl : (t.ln == 0) = true) (hm : (t.mn == 0) = false)  : Calls Tryz.prog 45 #[.agg t.c] w fun e w' => e = .returned (.bool (plainT t)) ∧ Below w.heap.size w w' := by
  have hh : Hid (plainT t = false) := by unfold Hid; have hs0 : t.s.toList.isEmpty = true := (by cases hq : t.s.toList <;> simp_all); refine plain_own ?_; unfold ownV ownB; simp [h0, h1, h2, h3, h4, h5, h6, h7, hn, hs0, hl, hm]
  have a0 : t.c[0]? = some (.int .i64 t.k) := rfl; have g0 : (t.k != 0) = true := congrArg (fun b => !b) h0; have g1 : (t.k != 1) = true := congrArg (fun b => !b) h1; have g2 : (t.k != 2) = true := congrArg (fun b => !b) h2; have g3 : (t.k != 3) = true := congrArg (fun b => !b) h3; have g4 : (t.k != 4) = true := congrArg (fun b => !b) h4; have g5 : (t.k != 5) = true := congrArg (fun b => !b) h5; have g6 : (t.k != 6) = true := congrArg (fun b => !b) h6; have g7 : (t.k != 7) = true := congrArg (fun b => !b) h7; have a1 : t.c[1]? = some (.int .i64 0) := congrArg (fun x => some (Value.int .i64 x)) hn; have hsb : (t.s.toList != []) = false := congrArg (fun b => !b) hs; have hl2 : decide ((0 : Int) < t.ln) = false := (len_l hl).1; have hl3 : decide (0 < t.ln) = false := (len_l hl).2; have hm2 : decide ((0 : Int) < t.mn) = true := (len_l hm).1; have hm3 : decide (0 < t.mn) = true := (len_l hm).2
  have a2 : t.c[2]? = some (.string t.s) := rfl
  have a3 : t.c[3]? = some (.slice t.lA t.ln t.lc) := rfl
  have a4 : t.c[4]? = some (.slice t.mA t.mn t.mc) := rfl
  have hS : Sees w (w.alloc (Obj.cells t.c 34)) [(w.heap.size, Obj.cells t.c 34)] := (Sees.start w).alloc _
  skip
  go_enter Tryz.func45, Tryz.ntmps45
  go_wp2_with go_skip
  go_ret
  exact ⟨ret_bool hh.out.symm, hS.below⟩
set_option maxRecDepth 100000 in
set_option maxHeartbeats 1000000 in
theorem plain_xt (t : VT) (w : World) (hz : t.s.size ≤ 9223372036854775807) (h0 : (t.k == 0) = false) (h1 : (t.k == 1) = false) (h2 : (t.k == 2) = false) (h3 : (t.k == 3) = false) (h4 : (t.k == 4) = false) (h5 : (t.k == 5) = false) (h6 : (t.k == 6) = false) (h7 : (t.k == 7) = false) (hn : t.n = 0) (hs : (t.s.toList == []) = true) (hl : (t.ln == 0) = true) (hm : (t.mn == 0) = true)  : Calls Tryz.prog 45 #[.agg t.c] w fun e w' => e = .returned (.bool (plainT t)) ∧ Below w.heap.size w w' := by
  have hh : Hid (plainT t = false) := by unfold Hid; have hs0 : t.s.toList.isEmpty = true := (by cases hq : t.s.toList <;> simp_all); refine plain_own ?_; unfold ownV ownB; simp [h0, h1, h2, h3, h4, h5, h6, h7, hn, hs0, hl, hm]
  have a0 : t.c[0]? = some (.int .i64 t.k) := rfl; have g0 : (t.k != 0) = true := congrArg (fun b => !b) h0; have g1 : (t.k != 1) = true := congrArg (fun b => !b) h1; have g2 : (t.k != 2) = true := congrArg (fun b => !b) h2; have g3 : (t.k != 3) = true := congrArg (fun b => !b) h3; have g4 : (t.k != 4) = true := congrArg (fun b => !b) h4; have g5 : (t.k != 5) = true := congrArg (fun b => !b) h5; have g6 : (t.k != 6) = true := congrArg (fun b => !b) h6; have g7 : (t.k != 7) = true := congrArg (fun b => !b) h7; have a1 : t.c[1]? = some (.int .i64 0) := congrArg (fun x => some (Value.int .i64 x)) hn; have hsb : (t.s.toList != []) = false := congrArg (fun b => !b) hs; have hl2 : decide ((0 : Int) < t.ln) = false := (len_l hl).1; have hl3 : decide (0 < t.ln) = false := (len_l hl).2; have hm2 : decide ((0 : Int) < t.mn) = false := (len_l hm).1; have hm3 : decide (0 < t.mn) = false := (len_l hm).2
  have a2 : t.c[2]? = some (.string t.s) := rfl
  have a3 : t.c[3]? = some (.slice t.lA t.ln t.lc) := rfl
  have a4 : t.c[4]? = some (.slice t.mA t.mn t.mc) := rfl
  have hS : Sees w (w.alloc (Obj.cells t.c 34)) [(w.heap.size, Obj.cells t.c 34)] := (Sees.start w).alloc _
  skip
  go_enter Tryz.func45, Tryz.ntmps45
  go_wp2_with go_skip
  go_ret
  exact ⟨ret_bool hh.out.symm, hS.below⟩
end
end Go.Proofs.YteplcnpmdjdlkaaGreatDoor
