/-
  Two vectors are compared number by number. No condition.
-/
import Derived.Test.YtjjiiaclgacfiaaDoorClkBase
namespace Go.Proofs.YtjjiiaclgacfiaaDoor
open Go.RowKit
set_option linter.unusedVariables false
set_option linter.unusedSimpArgs false

theorem run_equalIn_vec {P : Program} (w : World) (d : Nat) (t e : TypeId) (n : Nat) (ht : P.underlying t = some (.array n e)) (he : P.underlying e = some (.int .i64)) (hs : (P.info? e).map (·.size) = some 1)
    (v u : List Int) (hv : v.length = n) (hu : u.length = n) : (Op.equalIn (d + 2) t (.agg (vcells v)) (.agg (vcells u))).run P w = .ok (v == u) w := by
  obtain ⟨i0, hi0, hi1⟩ := Option.map_eq_some_iff.1 hs
  have hsz : (sizeOf e).run P w = .ok 1 w := by simp [sizeOf, typeInfo, hi0, hi1]
  have hag : (isAgg e).run P w = .ok false w := by
    unfold isAgg
    rw [Sem.run_bind, run_underlying he w]
    rfl
  have hp : ∀ (x : List Int) (i : Nat), i < x.length → (part e (vcells x) i).run P w = .ok (.int .i64 (vat x i)) w := by
    intro x i hi
    unfold part
    simp [Sem.run_bind, hag, vcells_get x i hi]
  have heq : ∀ (a b : Int), (Op.equalIn (d + 1) e (.int .i64 a) (.int .i64 b)).run P w = .ok (a == b) w := fun a b => run_equalIn_int w d e .i64 .i64 a b he
  rw [show d + 2 = (d + 1) + 1 from rfl, Op.equalIn]
  simp only [Sem.run_bind, run_underlying ht, Result.andThen_ok, hsz, Nat.mul_one]
  have key : ∀ (l : List Nat), (∀ i, i ∈ l → i < n) → Sem.run P (forIn l ((none : Option Bool), ()) fun i __s => do
            let __do_lift ← part e (vcells v) i
            let __do_lift_1 ← part e (vcells u) i
            let __do_lift ← Op.equalIn (d + 1) e __do_lift __do_lift_1
            if __do_lift = false then pure (ForInStep.done (some false, ())) else pure (ForInStep.yield (none, ()))) w =
      .ok (if (l.all fun i => vat v i == vat u i) = true then (none, ()) else (some false, ())) w := by
    intro l
    induction l with
    | nil => intro _; simp
    | cons i l ih =>
      intro hl
      have h1 := hl i (by simp)
      simp only [List.forIn_cons, Sem.run_bind, hp v i (by omega), hp u i (by omega), Result.andThen_ok, heq, List.all_cons]
      by_cases hb : (vat v i == vat u i) = false
      · rw [if_pos hb]
        simp [hb]
      · have hb' : (vat v i == vat u i) = true := by simpa using hb
        rw [if_neg hb]
        simp only [Sem.run_pure, Result.andThen_ok]
        rw [ih (fun j hj => hl j (by simp [hj]))]
        simp [hb']
  have hall : ((List.range' 0 n).all fun i => vat v i == vat u i) = (v == u) := by
    rw [Bool.eq_iff_iff]
    simp only [List.all_eq_true, List.mem_range'_1, beq_iff_eq]
    constructor
    · intro h
      exact vat_ext (by omega) (fun i hi => h i (by omega))
    · rintro rfl i _
      rfl
  simp
  rw [key (List.range' 0 n) (fun i hi => by simpa using hi), hall]
  cases v == u <;> simp
theorem run_eql_vec {P : Program} (w : World) (t e : TypeId) (n : Nat) (ht : P.underlying t = some (.array n e)) (he : P.underlying e = some (.int .i64)) (hs : (P.info? e).map (·.size) = some 1)
    (v u : List Int) (hv : v.length = n) (hu : u.length = n) : (binOp .eql t (.agg (vcells v)) (.agg (vcells u))).run P w = .ok (.bool (v == u)) w := by
  rw [run_eql_struct, run_equalIn_vec w 9998 t e n ht he hs v u hv hu]; rfl
theorem run_neq_vec {P : Program} (w : World) (t e : TypeId) (n : Nat) (ht : P.underlying t = some (.array n e)) (he : P.underlying e = some (.int .i64)) (hs : (P.info? e).map (·.size) = some 1)
    (v u : List Int) (hv : v.length = n) (hu : u.length = n) : (binOp .neq t (.agg (vcells v)) (.agg (vcells u))).run P w = .ok (.bool (!(v == u))) w := by
  rw [run_neq_struct, run_equalIn_vec w 9998 t e n ht he hs v u hv hu]; rfl
theorem vec_eql (w : World) (v u : List Int) (hv : v.length = 64) (hu : u.length = 64) : (binOp .eql 26 (.agg (vcells v)) (.agg (vcells u))).run Tryd.prog w = .ok (.bool (v == u)) w :=
  run_eql_vec w _ 2 64 Tryd.underlying26 Tryd.underlying2 (by kernel_rfl) v u hv hu
theorem vec_neq (w : World) (v u : List Int) (hv : v.length = 64) (hu : u.length = 64) : (binOp .neq 26 (.agg (vcells v)) (.agg (vcells u))).run Tryd.prog w = .ok (.bool (!(v == u))) w :=
  run_neq_vec w _ 2 64 Tryd.underlying26 Tryd.underlying2 (by kernel_rfl) v u hv hu
end Go.Proofs.YtjjiiaclgacfiaaDoor
