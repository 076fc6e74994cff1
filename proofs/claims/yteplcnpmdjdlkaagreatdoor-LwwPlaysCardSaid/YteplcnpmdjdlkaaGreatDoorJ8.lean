/-
  An operation as a row of 79 cells. No condition.
  (ops.Op).seen tells what is written here. Condition: the operation's name may be; 64 numbers in a vector.
  The walks of the package clock: each function tells what is written here, for every input; it makes blocks of its own, and changes none. No condition beside 64 numbers in a vector.
  (ops.Op).named tells what is written here, for all operations and names. No condition beside 64 numbers in a vector.
  The reference's Good, n, Has tell what clock's tell. No condition.
-/
import Derived.Test.YteplcnpmdjdlkaaGreatDoorRowPartJ
import Derived.Test.YteplcnpmdjdlkaaGreatDoorJ2
namespace Go.Proofs.YteplcnpmdjdlkaaGreatDoor
open Go.RowKit
set_option linter.unusedVariables false
set_option linter.unusedSimpArgs false
/-- An operation's fields; a value's two lists as they lie. -/
structure OpV where
  R : Int
  N : Int
  T : Int
  seen : List Int
  K : Int
  OR : Int
  ON : Int
  key : ByteArray
  AR : Int
  AN : Int
  M : Int
  VK : Int
  VN : Int
  VS : ByteArray
  VL : Value
  VM : Value
namespace OpV
variable (o : OpV)
def v : List Value := [.int .i64 o.VK, .int .i64 o.VN, .string o.VS, o.VL, o.VM]
def l : List Value := [.int .i64 o.R, .int .i64 o.N, .int .i64 o.T] ++ o.seen.map (Value.int .i64) ++ ([.int .i64 o.K, .int .i64 o.OR, .int .i64 o.ON, .string o.key, .int .i64 o.AR, .int .i64 o.AN, .int .i64 o.M] ++ o.v)
def c : Array Value := o.l.toArray
variable {o}
theorem g0 : o.c[0]? = some (.int .i64 o.R) := by simp [c, l]
theorem g1 : o.c[1]? = some (.int .i64 o.N) := by simp [c, l]
theorem g2 : o.c[2]? = some (.int .i64 o.T) := by simp [c, l]
theorem gs (h : o.seen.length = 64) (i : Nat) (hi : i < 64) : o.c[3 + i]? = some (.int .i64 (vat o.seen i)) := by
  simp only [c, l, List.getElem?_toArray]
  rw [List.append_assoc, List.getElem?_append_right (by simp), List.getElem?_append_left (by simp; omega)]
  simp [vat, List.getD_eq_getElem?_getD, List.getElem?_eq_getElem (show i < o.seen.length by omega)]
theorem gt (h : o.seen.length = 64) (i : Nat) : o.c[67 + i]? = ([.int .i64 o.K, .int .i64 o.OR, .int .i64 o.ON, .string o.key, .int .i64 o.AR, .int .i64 o.AN, .int .i64 o.M] ++ o.v)[i]? := by
  simp only [c, l, List.getElem?_toArray]
  rw [List.getElem?_append_right (by simp; omega)]
  congr 1
  simp; omega
theorem g67 (h : o.seen.length = 64) : o.c[67]? = some (.int .i64 o.K) := gt h 0
theorem g68 (h : o.seen.length = 64) : o.c[68]? = some (.int .i64 o.OR) := gt h 1
theorem g69 (h : o.seen.length = 64) : o.c[69]? = some (.int .i64 o.ON) := gt h 2
theorem g70 (h : o.seen.length = 64) : o.c[70]? = some (.string o.key) := gt h 3
theorem g71 (h : o.seen.length = 64) : o.c[71]? = some (.int .i64 o.AR) := gt h 4
theorem g72 (h : o.seen.length = 64) : o.c[72]? = some (.int .i64 o.AN) := gt h 5
theorem g73 (h : o.seen.length = 64) : o.c[73]? = some (.int .i64 o.M) := gt h 6
theorem g74 (h : o.seen.length = 64) : o.c[74]? = some (.int .i64 o.VK) := gt h 7
theorem g75 (h : o.seen.length = 64) : o.c[75]? = some (.int .i64 o.VN) := gt h 8
theorem g76 (h : o.seen.length = 64) : o.c[76]? = some (.string o.VS) := gt h 9
theorem g77 (h : o.seen.length = 64) : o.c[77]? = some o.VL := gt h 10
theorem g78 (h : o.seen.length = 64) : o.c[78]? = some o.VM := gt h 11
theorem size (h : o.seen.length = 64) : o.c.size = 79 := by simp [c, l, v, h]
theorem sId : ∀ (j : Nat) (x : Value), [Value.int .i64 o.R, .int .i64 o.N][j]? = some x → o.c[0 + j]? = some x := by
  intro j x hx
  match j with
  | 0 => simpa using hx ▸ g0 (o := o)
  | 1 => simpa using hx ▸ g1 (o := o)
  | j + 2 => simp at hx
theorem sSeen (h : o.seen.length = 64) : ∀ (j : Nat) (x : Value), (o.seen.map (Value.int .i64))[j]? = some x → o.c[3 + j]? = some x := by
  intro j x hx
  have hj : j < 64 := by
    have := (List.getElem?_eq_some_iff.1 hx).1
    simpa [h] using this
  rw [gs h j hj, ← hx]
  simp [vat, List.getD_eq_getElem?_getD, List.getElem?_eq_getElem (show j < o.seen.length by omega)]
theorem pSeen (h : o.seen.length = 64) : ∀ (j : Nat) (x : Value), (vcells o.seen)[j]? = some x → o.c[3 + j]? = some x := fun j x hx => sSeen h j x (by simpa [vcells] using hx)
theorem sObj (h : o.seen.length = 64) : ∀ (j : Nat) (x : Value), [Value.int .i64 o.OR, .int .i64 o.ON][j]? = some x → o.c[68 + j]? = some x := by
  intro j x hx
  rw [show 68 + j = 67 + (1 + j) by omega, gt h, ← hx]
  match j with
  | 0 => rfl
  | 1 => rfl
  | j + 2 => simp at hx
theorem sAt (h : o.seen.length = 64) : ∀ (j : Nat) (x : Value), [Value.int .i64 o.AR, .int .i64 o.AN][j]? = some x → o.c[71 + j]? = some x := by
  intro j x hx
  rw [show 71 + j = 67 + (4 + j) by omega, gt h, ← hx]
  match j with
  | 0 => rfl
  | 1 => rfl
  | j + 2 => simp at hx
theorem sV (h : o.seen.length = 64) : ∀ (j : Nat) (x : Value), o.v[j]? = some x → o.c[74 + j]? = some x := by
  intro j x hx
  rw [show 74 + j = 67 + (7 + j) by omega, gt h, ← hx, List.getElem?_append_right (by simp)]
  simp
theorem pId : ∀ (j : Nat) (x : Value), #[Value.int .i64 o.R, .int .i64 o.N][j]? = some x → o.c[0 + j]? = some x := fun j x hx => sId j x (by simpa using hx)
theorem pObj (h : o.seen.length = 64) : ∀ (j : Nat) (x : Value), #[Value.int .i64 o.OR, .int .i64 o.ON][j]? = some x → o.c[68 + j]? = some x := fun j x hx => sObj h j x (by simpa using hx)
theorem pAt (h : o.seen.length = 64) : ∀ (j : Nat) (x : Value), #[Value.int .i64 o.AR, .int .i64 o.AN][j]? = some x → o.c[71 + j]? = some x := fun j x hx => sAt h j x (by simpa using hx)
def vc (o : OpV) : Array Value := #[.int .i64 o.VK, .int .i64 o.VN, .string o.VS, o.VL, o.VM]
theorem pV (h : o.seen.length = 64) : ∀ (j : Nat) (x : Value), o.vc[j]? = some x → o.c[74 + j]? = some x := fun j x hx => sV h j x (by simpa [vc, v] using hx)
end OpV
abbrev opv (o : OpV) : Value := .agg o.c
end Go.Proofs.YteplcnpmdjdlkaaGreatDoor
namespace Go.Proofs.YteplcnpmdjdlkaaGreatDoor
open Go.RowKit
set_option linter.unusedVariables false
set_option linter.unusedSimpArgs false
theorem seen_info' (o : OpV) (h : o.seen.length = 64) : (Tryz.prog.info? 29).map (·.size) = some (vcells o.seen).size := by
  rw [vcells_size, h]; kernel_rfl
/-- May a vector's k-th number be what an operation has seen? -/
def seenAt (o : OpV) (k : Nat) : Bool := decide (0 ≤ vat o.seen k) && decide (vat o.seen k ≤ 60) && (!((k : Int) == o.R - 1) || (vat o.seen k == o.N - 1))
def seenTo (o : OpV) : Nat → Bool
  | 0 => true
  | k + 1 => seenTo o k && seenAt o k
def seenB (o : OpV) : Bool := seenTo o 64
theorem seenTo_iff (o : OpV) (n : Nat) : seenTo o n = true ↔ ∀ k, k < n → seenAt o k = true := by
  induction n with
  | zero => simp [seenTo]
  | succ n ih =>
    simp only [seenTo, Bool.and_eq_true, ih]
    constructor
    · rintro ⟨h1, h2⟩ k hk
      rcases Nat.lt_or_ge k n with h | h
      · exact h1 k h
      · obtain rfl : k = n := by omega
        exact h2
    · intro h
      exact ⟨fun k hk => h k (by omega), h n (by omega)⟩
theorem seenB_no {o : OpV} {k : Nat} (hk : k < 64) (h : seenAt o k = false) : seenB o = false := by
  rw [Bool.eq_false_iff]
  intro hs
  rw [(seenTo_iff o 64).1 hs k hk] at h
  cases h
theorem run_index_vec {P : Program} (t e : TypeId) (ht : P.underlying t = some (.array 64 e)) (he : P.underlying e = some (.int .i64)) (hs : (P.info? e).map (·.size) = some 1)
    (v : List Int) (hv : v.length = 64) (k : Nat) (hk : k < 64) (w : World) : (Instr.index t (.agg (vcells v)) (.int .i64 (k : Int))).run P w = .ok (.int .i64 (vat v k)) w := by
  obtain ⟨i0, hi0, hi1⟩ := Option.map_eq_some_iff.1 hs
  have hsz : (sizeOf e).run P w = .ok 1 w := by simp [sizeOf, typeInfo, hi0, hi1]
  have hag : (isAgg e).run P w = .ok false w := by
    unfold isAgg
    rw [Sem.run_bind, run_underlying he w]
    rfl
  have hp : (part e (vcells v) k).run P w = .ok (.int .i64 (vat v k)) w := by
    unfold part
    simp [Sem.run_bind, hag, vcells_get v k (by omega)]
  have hlt : (k : Int) < (64 : Nat) := by omega
  unfold Instr.index
  simp [asIntOf, Sem.run_bind, run_underlying ht, hsz, hp, hk]
set_option maxHeartbeats 4000000 in
theorem seen_any (o : OpV) (w : World) (ho : o.seen.length = 64) (hr1 : 1 ≤ o.R) (hr2 : o.R ≤ 64) (hn1 : 1 ≤ o.N) (hn2 : o.N ≤ 60) : Calls Tryz.prog 35 #[opv o] w fun e w' => e = .returned (.bool (seenB o)) ∧ Below w.heap.size w w' := by
  have a0 := OpV.g0 (o := o)
  have a1 := OpV.g1 (o := o)
  go_enter Tryz.func35, Tryz.ntmps35
  go_wp2_with (refine load_part rfl 29 (.tmp 5) rfl _ 3 rfl _ _ (0, 0) _ _ (heap_alloc_new _ _) (OpV.pSeen ho) Tryz.underlying29 rfl (seen_info' _ ho) ?_)
  go_loop [7] (fun iv => ∃ k : Nat, k ≤ 64 ∧ iv = .int .i64 (k : Int) ∧ Hid (seenTo o k = true)) (fun iv => 64 - (intOf iv).toNat)
  case atStart => exact ⟨0, by omega, rfl, rfl⟩
  case round =>
    obtain ⟨k, hk, rfl, H⟩ := hrel
    by_cases hlt : k < 64
    · have hix := run_index_vec (P := Tryz.prog) 29 2 Tryz.underlying29 Tryz.underlying2 (by kernel_rfl) o.seen ho k hlt
      have hat : Hid (seenAt o k = (decide (0 ≤ vat o.seen k) && decide (vat o.seen k ≤ 60) && (!((k : Int) == o.R - 1) || (vat o.seen k == o.N - 1)))) := rfl
      have hno := @seenB_no o k hlt
      have HN := Lib.hid hno
      clear hno
      generalize vat o.seen k = x at *
      by_cases h0 : x < 0
      · have hh : Hid (seenB o = false) := HN.out (by rw [hat.out, decide_eq_false (show ¬ 0 ≤ x by omega)]; rfl)
        clear hat HN
        go_wp2
        go_ret
        exact ⟨ret_bool hh.out.symm, (Below.refl _ _).alloc (Nat.le_refl _) _⟩
      · by_cases h6 : 60 < x
        · have hh : Hid (seenB o = false) := HN.out (by rw [hat.out, decide_eq_false (show ¬ x ≤ 60 by omega)]; simp)
          clear hat HN
          go_wp2
          go_ret
          exact ⟨ret_bool hh.out.symm, (Below.refl _ _).alloc (Nat.le_refl _) _⟩
        · by_cases hkr : (k : Int) = o.R - 1
          · have hkb : ((k : Int) == o.R - 1) = true := by simpa using hkr
            by_cases hxn : x = o.N - 1
            · have hxb : (x != o.N - 1) = false := by simpa using hxn
              have hs : Hid (seenTo o (k + 1) = true) := by unfold Hid; rw [seenTo, H.out, hat.out]; simp [hkr, hxn]; omega
              clear hat HN hkr hxn
              go_wp2
              go_round
              case rel => exact ⟨k + 1, by omega, by go_num, hs⟩
              case measure => simp [intOf]; omega
            · have hxb : (x != o.N - 1) = true := by simpa using hxn
              have hh : Hid (seenB o = false) := HN.out (by rw [hat.out]; simp [hkr, hxn])
              clear hat HN hkr hxn
              go_wp2
              go_ret
              exact ⟨ret_bool hh.out.symm, (Below.refl _ _).alloc (Nat.le_refl _) _⟩
          · have hkb : ((k : Int) == o.R - 1) = false := by simpa using hkr
            have hs : Hid (seenTo o (k + 1) = true) := by unfold Hid; rw [seenTo, H.out, hat.out]; simp [hkr]; omega
            clear hat HN hkr
            go_wp2
            go_round
            case rel => exact ⟨k + 1, by omega, by go_num, hs⟩
            case measure => simp [intOf]; omega
    · obtain rfl : k = 64 := by omega
      go_wp2
      go_ret
      exact ⟨ret_bool H.out.symm, (Below.refl _ _).alloc (Nat.le_refl _) _⟩
end Go.Proofs.YteplcnpmdjdlkaaGreatDoor
namespace Go.Proofs.YteplcnpmdjdlkaaGreatDoor
open Go.RowKit
set_option linter.unusedVariables false
set_option linter.unusedSimpArgs false

def kn (x : Int) : Int := if 60 < (if x < 0 then 0 else x) then 60 else (if x < 0 then 0 else x)
theorem kn_range (x : Int) : 0 ≤ kn x ∧ kn x ≤ 60 := by unfold kn; split <;> split <;> omega
def know (v : List Int) (r : Int) : Int := kn (vat v (r.toNat - 1))
theorem know_range (v : List Int) (r : Int) : 0 ≤ know v r ∧ know v r ≤ 60 := kn_range _
def replicaB (r : Int) : Bool := decide (1 ≤ r ∧ r ≤ 64)
theorem replicaB_iff {r : Int} : replicaB r = true ↔ 1 ≤ r ∧ r ≤ 64 := by simp [replicaB]
def goodB (r n : Int) : Bool := replicaB r && decide (1 ≤ n ∧ n ≤ 60)
theorem goodB_iff {r n : Int} : goodB r n = true ↔ (1 ≤ r ∧ r ≤ 64) ∧ 1 ≤ n ∧ n ≤ 60 := by simp [goodB, replicaB]
def hasB (v : List Int) (r n : Int) : Bool := goodB r n && decide (n ≤ know v r)
def nextOf (v : List Int) (r : Int) : Int × Int := if replicaB r = true ∧ know v r ≠ 60 then (r, know v r + 1) else (0, 0)
theorem vec_info (v : List Int) (hv : v.length = 64) : (Tryz.prog.info? 29).map (·.size) = some (vcells v).size := by rw [vcells_size, hv]; kernel_rfl

set_option maxHeartbeats 400000 in
theorem known_any (v : List Int) (r : Int) (w : World) (hv : v.length = 64) (h1 : 1 ≤ r) (h2 : r ≤ 64) :
    Calls Tryz.prog 71 #[.agg (vcells v), .int .i64 r] w fun e w' => e = .returned (.int .i64 (know v r)) ∧ Below w.heap.size w w' := by
  have h : (vcells v)[r.toNat - 1]? = some (.int .i64 (vat v (r.toNat - 1))) := vcells_get v _ (by omega)
  have hs := vcells_size v
  rw [hv] at hs
  have hk : Hid (know v r = kn (vat v (r.toNat - 1))) := rfl
  go_enter Tryz.func71, Tryz.ntmps71
  go_wp2
  all_goals
    go_ret
    refine ⟨ret_int ?_, (Below.refl _ _).alloc (Nat.le_refl _) _⟩
    rw [hk.out]; unfold kn
    generalize vat v (r.toNat - 1) = x at *
    first | omega | (split <;> split <;> simp_all <;> omega)

set_option maxHeartbeats 400000 in
theorem replica_any (r : Int) (w : World) :
    Calls Tryz.prog 49 #[.int .i64 r] w fun e w' => e = .returned (.bool (replicaB r)) ∧ w = w' := by
  by_cases h1 : 1 ≤ r
  · go_enter Tryz.func49, Tryz.ntmps49
    go_wp2
    go_ret
    exact ⟨ret_bool (by unfold replicaB; simp [h1]), rfl⟩
  · have h1' : r < 1 := by omega
    go_enter Tryz.func49, Tryz.ntmps49
    go_wp2
    go_ret
    exact ⟨ret_bool (by unfold replicaB; exact (decide_eq_false (by omega)).symm), rfl⟩

set_option maxHeartbeats 400000 in
theorem Good_any (r n : Int) (w : World) :
    Calls Tryz.prog 34 #[.agg #[.int .i64 r, .int .i64 n]] w fun e w' => e = .returned (.bool (goodB r n)) ∧ Below w.heap.size w w' := by
  cases hr : replicaB r
  · go_enter Tryz.func34, Tryz.ntmps34
    go_wp2_with (go_at_call 49; refine (replica_any _ _).mono ?_; rintro e w' ⟨rfl, rfl⟩; rw [hr])
    go_ret
    exact ⟨ret_bool (by unfold goodB; simp [hr]), (Below.refl _ _).alloc (Nat.le_refl _) _⟩
  · by_cases h1 : 1 ≤ n
    · go_enter Tryz.func34, Tryz.ntmps34
      go_wp2_with (go_at_call 49; refine (replica_any _ _).mono ?_; rintro e w' ⟨rfl, rfl⟩; rw [hr])
      go_ret
      exact ⟨ret_bool (by unfold goodB; simp [hr, h1]), (Below.refl _ _).alloc (Nat.le_refl _) _⟩
    · have h1' : n < 1 := by omega
      go_enter Tryz.func34, Tryz.ntmps34
      go_wp2_with (go_at_call 49; refine (replica_any _ _).mono ?_; rintro e w' ⟨rfl, rfl⟩; rw [hr])
      go_ret
      exact ⟨ret_bool (by unfold goodB; rw [hr, Bool.true_and]; exact (decide_eq_false (by omega)).symm), (Below.refl _ _).alloc (Nat.le_refl _) _⟩
theorem Good_is {r n : Int} {b : Bool} (h : goodB r n = b) (w : World) :
    Calls Tryz.prog 34 #[.agg #[.int .i64 r, .int .i64 n]] w fun e w' => e = .returned (.bool b) ∧ Below w.heap.size w w' := h ▸ Good_any r n w

set_option maxHeartbeats 400000 in
theorem Has_any (v : List Int) (r n : Int) (w : World) (hv : v.length = 64) :
    Calls Tryz.prog 53 #[.agg (vcells v), .agg #[.int .i64 r, .int .i64 n]] w fun e w' => e = .returned (.bool (hasB v r n)) ∧ Below w.heap.size w w' := by
  have hi := vec_info v hv
  cases hg : goodB r n
  · have hh : Hid (hasB v r n = false) := by unfold Hid hasB; rw [hg]; rfl
    go_enter Tryz.func53, Tryz.ntmps53
    go_wp2
    have hB : Below w.heap.size w ((w.alloc (Obj.cells (vcells v) 29)).alloc (Obj.cells #[Value.int .i64 r, Value.int .i64 n] 27)) := ((Below.refl _ _).alloc (Nat.le_refl _) _).alloc (by simp) _
    have c0 : ((w.alloc (Obj.cells (vcells v) 29)).alloc (Obj.cells #[Value.int .i64 r, Value.int .i64 n] 27)).cell? ⟨w.heap.size + 1, 0, none⟩ = some (.int .i64 r) := by simp [go_sem]
    have c1 : ((w.alloc (Obj.cells (vcells v) 29)).alloc (Obj.cells #[Value.int .i64 r, Value.int .i64 n] 27)).cell? ⟨w.heap.size + 1, 1, none⟩ = some (.int .i64 n) := by simp [go_sem]
    generalize ((w.alloc (Obj.cells (vcells v) 29)).alloc (Obj.cells #[Value.int .i64 r, Value.int .i64 n] 27)) = W at *
    have k0 := cell_regrown c0
    have k1 := cell_regrown c1
    have cG := grown_calls (w := W) (fun W' _ => Good_is hg W')
    refine wp_region_quiet_below (by kernel_rfl) (by kernel_rfl) ?_
    repeat (quiet_step (exact cG _ _))
    refine wpQuiet_nil ?_; rintro wq ⟨⟨dq, osq⟩, rfl⟩; have hbq := below_regrown W dq osq; generalize Go.Sort.grow (redrawn W dq) osq = wq at *
    go_wp2
    go_ret
    exact ⟨ret_bool hh.out.symm, below_then hB hB.size hbq⟩
  · have hr := (goodB_iff.1 hg).1
    have hR := Lib.hid hr; clear hr
    have hh : Hid (hasB v r n = decide (n ≤ know v r)) := by unfold Hid hasB; rw [hg]; rfl
    go_enter Tryz.func53, Tryz.ntmps53
    go_wp2
    have hB : Below w.heap.size w ((w.alloc (Obj.cells (vcells v) 29)).alloc (Obj.cells #[Value.int .i64 r, Value.int .i64 n] 27)) := ((Below.refl _ _).alloc (Nat.le_refl _) _).alloc (by simp) _
    have c0 : ((w.alloc (Obj.cells (vcells v) 29)).alloc (Obj.cells #[Value.int .i64 r, Value.int .i64 n] 27)).cell? ⟨w.heap.size + 1, 0, none⟩ = some (.int .i64 r) := by simp [go_sem]
    have c1 : ((w.alloc (Obj.cells (vcells v) 29)).alloc (Obj.cells #[Value.int .i64 r, Value.int .i64 n] 27)).cell? ⟨w.heap.size + 1, 1, none⟩ = some (.int .i64 n) := by simp [go_sem]
    have hg0 : ((w.alloc (Obj.cells (vcells v) 29)).alloc (Obj.cells #[Value.int .i64 r, Value.int .i64 n] 27)).heap[w.heap.size]? = some (Obj.cells (vcells v) 29) := heap_alloc2_old _ _ _
    generalize ((w.alloc (Obj.cells (vcells v) 29)).alloc (Obj.cells #[Value.int .i64 r, Value.int .i64 n] 27)) = W at *
    have k0 := cell_regrown c0
    have k1 := cell_regrown c1
    have cG := grown_calls (w := W) (fun W' _ => Good_is hg W')
    have cK := grown_calls (w := W) (fun W' _ => known_any v r W' hv hR.out.1 hR.out.2)
    refine wp_region_quiet_below (by kernel_rfl) (by kernel_rfl) ?_
    repeat (first | (refine BigFrame.wpQuiet_want rfl (fun K hK => ?_); refine quiet_load_row 29 (.tmp 2) rfl _ rfl 29 _ (0, 0) _ (row_regrown hg0) Tryz.underlying29 rfl hi ?_; refine hK _ ?_; clear hK K) | (quiet_step (first | with_reducible exact cG _ _ | with_reducible exact cK _ _)))
    refine wpQuiet_nil ?_; rintro wq ⟨⟨dq, osq⟩, rfl⟩; have hbq := below_regrown W dq osq; generalize Go.Sort.grow (redrawn W dq) osq = wq at *
    go_wp2
    all_goals
      go_ret
      exact ⟨ret_bool hh.out.symm, below_then hB hB.size hbq⟩

end Go.Proofs.YteplcnpmdjdlkaaGreatDoor
namespace Go.Proofs.YteplcnpmdjdlkaaGreatDoor
open Go.RowKit
set_option linter.unusedVariables false
set_option linter.unusedSimpArgs false
def namedB (o : OpV) (r n : Int) (nb : Bool) : Bool := if r = 0 ∧ n = 0 then nb else hasB o.seen r n
theorem seen_info (o : OpV) (h : o.seen.length = 64) : (Tryz.prog.info? 29).map (·.size) = some (vcells o.seen).size := by
  rw [vcells_size, h]; kernel_rfl
set_option maxHeartbeats 1000000 in
theorem named_any (o : OpV) (r n : Int) (nb : Bool) (w : World) (ho : o.seen.length = 64) : Calls Tryz.prog 38 #[opv o, .agg #[.int .i64 r, .int .i64 n], .bool nb] w fun e w' => e = .returned (.bool (namedB o r n nb)) ∧ Below w.heap.size w w' := by
  by_cases h1 : r = 0
  · subst h1
    by_cases h2 : n = 0
    · subst h2
      have hh : Hid (namedB o 0 0 nb = nb) := by unfold Hid namedB; simp
      go_enter Tryz.func38, Tryz.ntmps38
      go_wp2
      go_ret
      exact ⟨ret_bool hh.out.symm, ((Below.refl _ _).alloc (Nat.le_refl _) _).alloc (by simp) _⟩
    · have hh : Hid (namedB o 0 n nb = hasB o.seen 0 n) := by unfold Hid namedB; simp [h2]
      have h2b : (n == 0) = false := by simpa using h2
      clear h2
      go_enter Tryz.func38, Tryz.ntmps38
      go_wp2_with (first | (refine load_part rfl 29 (.tmp 11) rfl _ 3 rfl _ _ (0, 0) _ _ (heap_alloc2_old _ _ _) (OpV.pSeen ho) Tryz.underlying29 rfl (seen_info _ ho) ?_) | (go_at_call 53; with_reducible (refine (Has_any _ _ _ _ ho).mono ?_); rintro e w1 ⟨rfl, hb1⟩))
      go_ret
      exact ⟨ret_bool hh.out.symm, below_then (((Below.refl _ _).alloc (Nat.le_refl _) _).alloc (by simp) _) (by simp; omega) hb1⟩
  · have hh : Hid (namedB o r n nb = hasB o.seen r n) := by unfold Hid namedB; simp [h1]
    have h1b : (r == 0) = false := by simpa using h1
    clear h1
    go_enter Tryz.func38, Tryz.ntmps38
    go_wp2_with (first | (refine load_part rfl 29 (.tmp 11) rfl _ 3 rfl _ _ (0, 0) _ _ (heap_alloc2_old _ _ _) (OpV.pSeen ho) Tryz.underlying29 rfl (seen_info _ ho) ?_) | (go_at_call 53; with_reducible (refine (Has_any _ _ _ _ ho).mono ?_); rintro e w1 ⟨rfl, hb1⟩))
    go_ret
    exact ⟨ret_bool hh.out.symm, below_then (((Below.refl _ _).alloc (Nat.le_refl _) _).alloc (by simp) _) (by simp; omega) hb1⟩
end Go.Proofs.YteplcnpmdjdlkaaGreatDoor
namespace Go.Proofs.YteplcnpmdjdlkaaGreatDoor
open Go.RowKit
set_option linter.unusedVariables false
set_option linter.unusedSimpArgs false
theorem kn_is (x : Int) : kn x = if x < 0 then 0 else if 60 < x then 60 else x := by
  unfold kn
  (repeat' split) <;> omega
set_option maxHeartbeats 1000000 in
theorem r20n_any (v : List Int) (r : Int) (w : World) (hv : v.length = 64) (h1 : 1 ≤ r) (h2 : r ≤ 64) :
    Calls Tryz.prog 43 #[.agg (vcells v), .int .i64 r] w fun e w' => e = .returned (.int .i64 (know v r)) ∧ Below w.heap.size w w' := by
  have h : (vcells v)[r.toNat - 1]? = some (.int .i64 (vat v (r.toNat - 1))) := vcells_get v _ (by omega)
  have hs := vcells_size v
  rw [hv] at hs
  have hk : Hid (know v r = kn (vat v (r.toNat - 1))) := rfl
  obtain ⟨x, hx⟩ : ∃ x, x = vat v (r.toNat - 1) := ⟨_, rfl⟩
  rw [← hx] at h hk
  clear hx
  by_cases a : x < 0
  · have hh : Hid (know v r = 0) := by unfold Hid; rw [hk.out, kn_is, if_pos a]
    go_enter Tryz.func43, Tryz.ntmps43
    go_wp2
    go_ret
    exact ⟨by rw [hh.out]; rfl, by repeat (first | exact Below.refl _ _ | exact (Below.refl _ _).alloc (Nat.le_refl _) _)⟩
  by_cases b : 60 < x
  · have hh : Hid (know v r = 60) := by unfold Hid; rw [hk.out, kn_is, if_neg a, if_pos b]
    go_enter Tryz.func43, Tryz.ntmps43
    go_wp2
    go_ret
    exact ⟨by rw [hh.out]; rfl, by repeat (first | exact Below.refl _ _ | exact (Below.refl _ _).alloc (Nat.le_refl _) _)⟩
  · have hh : Hid (know v r = x) := by unfold Hid; rw [hk.out, kn_is, if_neg a, if_neg b]
    go_enter Tryz.func43, Tryz.ntmps43
    go_wp2
    go_ret
    exact ⟨by rw [hh.out]; rfl, by repeat (first | exact Below.refl _ _ | exact (Below.refl _ _).alloc (Nat.le_refl _) _)⟩
set_option maxHeartbeats 1000000 in
theorem r20Good_any (r n : Int) (w : World) :
    Calls Tryz.prog 27 #[.agg #[.int .i64 r, .int .i64 n]] w fun e w' => e = .returned (.bool (goodB r n)) ∧ Below w.heap.size w w' := by
  obtain ⟨x, hx⟩ : ∃ x, x = goodB r n := ⟨_, rfl⟩
  have hh : Hid (x = (decide (1 ≤ r) && decide (r ≤ 64) && decide (1 ≤ n) && decide (n ≤ 60))) := by
    unfold Hid; rw [hx, Bool.eq_iff_iff, goodB_iff]; simp; omega
  rw [← hx]
  clear hx
  by_cases h1 : 1 ≤ r
  case neg =>
    go_enter Tryz.func27, Tryz.ntmps27
    go_wp2
    go_ret
    exact ⟨ret_bool (by rw [hh.out, Bool.eq_iff_iff]; simp; try omega), (Below.refl _ _).alloc (Nat.le_refl _) _⟩
  by_cases h2 : r ≤ 64
  case neg =>
    go_enter Tryz.func27, Tryz.ntmps27
    go_wp2
    go_ret
    exact ⟨ret_bool (by rw [hh.out, Bool.eq_iff_iff]; simp; try omega), (Below.refl _ _).alloc (Nat.le_refl _) _⟩
  by_cases h3 : 1 ≤ n
  case neg =>
    go_enter Tryz.func27, Tryz.ntmps27
    go_wp2
    go_ret
    exact ⟨ret_bool (by rw [hh.out, Bool.eq_iff_iff]; simp; try omega), (Below.refl _ _).alloc (Nat.le_refl _) _⟩
  go_enter Tryz.func27, Tryz.ntmps27
  go_wp2
  go_ret
  exact ⟨ret_bool (by rw [hh.out, Bool.eq_iff_iff]; simp; try omega), (Below.refl _ _).alloc (Nat.le_refl _) _⟩
theorem r20Good_is {r n : Int} {b : Bool} (h : goodB r n = b) (w : World) :
    Calls Tryz.prog 27 #[.agg #[.int .i64 r, .int .i64 n]] w fun e w' => e = .returned (.bool b) ∧ Below w.heap.size w w' := h ▸ r20Good_any r n w
set_option maxHeartbeats 400000 in
theorem r20Has_any (v : List Int) (r n : Int) (w : World) (hv : v.length = 64) :
    Calls Tryz.prog 28 #[.agg (vcells v), .agg #[.int .i64 r, .int .i64 n]] w fun e w' => e = .returned (.bool (hasB v r n)) ∧ Below w.heap.size w w' := by
  have hi := vec_info v hv
  cases hg : goodB r n
  · have hh : Hid (hasB v r n = false) := by unfold Hid hasB; rw [hg]; rfl
    go_enter Tryz.func28, Tryz.ntmps28
    go_wp2
    have hB : Below w.heap.size w ((w.alloc (Obj.cells (vcells v) 29)).alloc (Obj.cells #[Value.int .i64 r, Value.int .i64 n] 27)) := ((Below.refl _ _).alloc (Nat.le_refl _) _).alloc (by simp) _
    have c0 : ((w.alloc (Obj.cells (vcells v) 29)).alloc (Obj.cells #[Value.int .i64 r, Value.int .i64 n] 27)).cell? ⟨w.heap.size + 1, 0, none⟩ = some (.int .i64 r) := by simp [go_sem]
    have c1 : ((w.alloc (Obj.cells (vcells v) 29)).alloc (Obj.cells #[Value.int .i64 r, Value.int .i64 n] 27)).cell? ⟨w.heap.size + 1, 1, none⟩ = some (.int .i64 n) := by simp [go_sem]
    generalize ((w.alloc (Obj.cells (vcells v) 29)).alloc (Obj.cells #[Value.int .i64 r, Value.int .i64 n] 27)) = W at *
    have k0 := cell_regrown c0
    have k1 := cell_regrown c1
    have cG := grown_calls (w := W) (fun W' _ => r20Good_is hg W')
    refine wp_region_quiet_below (by kernel_rfl) (by kernel_rfl) ?_
    repeat (quiet_step (exact cG _ _))
    refine wpQuiet_nil ?_; rintro wq ⟨⟨dq, osq⟩, rfl⟩; have hbq := below_regrown W dq osq; generalize Go.Sort.grow (redrawn W dq) osq = wq at *
    go_wp2
    go_ret
    exact ⟨ret_bool hh.out.symm, below_then hB hB.size hbq⟩
  · have hr := (goodB_iff.1 hg).1
    have hR := Lib.hid hr; clear hr
    have hh : Hid (hasB v r n = decide (n ≤ know v r)) := by unfold Hid hasB; rw [hg]; rfl
    go_enter Tryz.func28, Tryz.ntmps28
    go_wp2
    have hB : Below w.heap.size w ((w.alloc (Obj.cells (vcells v) 29)).alloc (Obj.cells #[Value.int .i64 r, Value.int .i64 n] 27)) := ((Below.refl _ _).alloc (Nat.le_refl _) _).alloc (by simp) _
    have c0 : ((w.alloc (Obj.cells (vcells v) 29)).alloc (Obj.cells #[Value.int .i64 r, Value.int .i64 n] 27)).cell? ⟨w.heap.size + 1, 0, none⟩ = some (.int .i64 r) := by simp [go_sem]
    have c1 : ((w.alloc (Obj.cells (vcells v) 29)).alloc (Obj.cells #[Value.int .i64 r, Value.int .i64 n] 27)).cell? ⟨w.heap.size + 1, 1, none⟩ = some (.int .i64 n) := by simp [go_sem]
    have hg0 : ((w.alloc (Obj.cells (vcells v) 29)).alloc (Obj.cells #[Value.int .i64 r, Value.int .i64 n] 27)).heap[w.heap.size]? = some (Obj.cells (vcells v) 29) := heap_alloc2_old _ _ _
    generalize ((w.alloc (Obj.cells (vcells v) 29)).alloc (Obj.cells #[Value.int .i64 r, Value.int .i64 n] 27)) = W at *
    have k0 := cell_regrown c0
    have k1 := cell_regrown c1
    have cG := grown_calls (w := W) (fun W' _ => r20Good_is hg W')
    have cK := grown_calls (w := W) (fun W' _ => r20n_any v r W' hv hR.out.1 hR.out.2)
    refine wp_region_quiet_below (by kernel_rfl) (by kernel_rfl) ?_
    repeat (first | (refine BigFrame.wpQuiet_want rfl (fun K hK => ?_); refine quiet_load_row 29 (.tmp 2) rfl _ rfl 29 _ (0, 0) _ (row_regrown hg0) Tryz.underlying29 rfl hi ?_; refine hK _ ?_; clear hK K) | (quiet_step (first | with_reducible exact cG _ _ | with_reducible exact cK _ _)))
    refine wpQuiet_nil ?_; rintro wq ⟨⟨dq, osq⟩, rfl⟩; have hbq := below_regrown W dq osq; generalize Go.Sort.grow (redrawn W dq) osq = wq at *
    go_wp2
    all_goals
      go_ret
      exact ⟨ret_bool hh.out.symm, below_then hB hB.size hbq⟩
end Go.Proofs.YteplcnpmdjdlkaaGreatDoor
