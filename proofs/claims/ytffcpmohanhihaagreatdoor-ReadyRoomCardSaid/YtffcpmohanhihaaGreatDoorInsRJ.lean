/-
  copy between rows of many cells; what an insertion makes of a row's cells. No condition of a law's; tools of the walks.
-/
import Derived.Test.YtffcpmohanhihaaGreatDoorJ19
import Derived.Laws.CopyRow
import Derived.Lib.AppendZerosOnto
import Derived.Lib.Overlaps
import Derived.Laws.Externs
namespace Go.Proofs.YtffcpmohanhihaaGreatDoor
open Go.RowKit Go.Sort
set_option linter.unusedVariables false
set_option linter.unusedSimpArgs false
set_option linter.unusedSectionVars false
section
variable {P : Program}
theorem run_copy_k (w : World) (dT sT ty elem : TypeId) (size : Nat) (g o dLen dCap : Nat) (a : Addr) (sLen sCap m : Nat) (cur : Array Value) (t : TypeId) (cs : List Value)
    (hu : P.underlying dT = some (.slice elem)) (hs : (P.info? elem).map (·.size) = some size)
    (hg : w.heap[g]? = some (.cells cur t (0, 0))) (hm : Nat.min sLen dLen = m) (hn : cs.length = m * size)
    (hsrc : ∀ j v, cs[j]? = some v → w.cell? (a.add j) = some v) (hfit : o + cs.length ≤ cur.size) (h1 : ∀ v ∈ cs, v.oneCell' = true) :
    (Builtin.copy_ #[dT, sT] ty #[.slice (some ⟨g, o, none⟩) dLen dCap, .slice (some a) sLen sCap]).run P w =
      .ok (goInt m) (w.setRow g (cur.toList.take o ++ cs ++ cur.toList.drop (o + cs.length)).toArray) := by
  have hst := run_storeCells_at P g o t cs 0 cur w hg (by simpa using hfit) h1
  obtain ⟨i, hq, hi⟩ := Option.map_eq_some_iff.1 hs
  have hf := run_firstCells_some (P := P) w i.size m a sLen sCap cs (by rw [hn, hi]) hsrc
  simp [Builtin.copy_, run_underlying hu, Builtin.lenOf, sizeOf, typeInfo, hq, hm, hf, hst]
variable {ops : Array Oper} {rest : List Oper} {o : Oper} {act : Act} {w : World} {Q : Exit → Act → World → Prop}
theorem copy_arm (hgd : o.guard = none) (d s : Operand) (dT elem : TypeId) (ho : o.op = .call { callee := .builtin .copy, args := #[d, s], argTypes := #[dT, dT] }) (size g off dLen dCap : Nat) (a : Addr) (sLen sCap m : Nat) (cur : Array Value) (t : TypeId) (cs : List Value)
    (hd : act.eval d = .slice (some ⟨g, off, none⟩) dLen dCap) (hx : act.eval s = .slice (some a) sLen sCap)
    (hu : P.underlying dT = some (.slice elem)) (hs : (P.info? elem).map (·.size) = some size)
    (hg : w.heap[g]? = some (.cells cur t (0, 0))) (hm : Nat.min sLen dLen = m) (hn : cs.length = m * size)
    (hsrc : ∀ j v, cs[j]? = some v → w.cell? (a.add j) = some v) (hfit : off + cs.length ≤ cur.size) (h1 : ∀ v ∈ cs, v.oneCell' = true)
    (h : ∀ w', w'.heap[g]? = some (.cells (cur.toList.take off ++ cs ++ cur.toList.drop (off + cs.length)).toArray t (0, 0)) → (∀ k, k ≠ g → w'.heap[k]? = w.heap[k]?) → Below g w w' → w'.heap.size = w.heap.size → wpList P ops Q rest (act.put o.dst (goInt m)) w') : wpList P ops Q (o :: rest) act w :=
  wpList_plain hgd fun K hK => by
    have hr := run_copy_k (P := P) w dT dT o.type elem size g off dLen dCap a sLen sCap m cur t cs hu hs hg hm hn hsrc hfit h1
    unfold Oper.wp execOp
    simp only [ho, resolve, invoke, builtin, Sem.run_bind, Sem.run_pure, Result.andThen_ok, List.map_toArray, List.map_cons, List.map_nil, hd, hx, hr]
    exact hK _ _ (h _ (setRow_heap _ _ _ _ _ _ hg) (fun k hk => setRow_other _ _ _ _ (by omega)) ⟨rfl, rfl, rfl, by simp, fun k hk => setRow_other _ _ _ _ (by omega)⟩ (by simp))
end
theorem zc_size (z : Array Value) (n : Nat) : (Builtin.zeroCells z n).size = n * z.size := by simp [Builtin.zeroCells]
section
variable {P : Program} {ops : Array Oper} {rest : List Oper} {o : Oper} {a : Act} {w : World} {Q : Exit → Act → World → Prop}
/-- append(s[:i], make(..)) where there is no room: a row of its own. -/
theorem growz_arm (hgd : o.guard = none) (s x : Operand) (t tn e : TypeId) (ho : o.op = .call { callee := .builtin .append, args := #[s, x], argTypes := #[t, tn] }) (i : TypeInfo) (z : Value) (size bytes : Nat) (kn : IntKind) (ht : P.underlying t = some (.slice e)) (htn : P.underlying tn = some (.int kn)) (hi : P.info? e = some i) (hz : i.zero = some z) (hsz : i.size = size) (hby : i.bytes = bytes) (hzs : z.cells.size = size) (h0s : 0 < size)
    (g sLen sCap k : Nat) (kI : Int) (hk : kI = (k : Int)) (hs : a.eval s = .slice (some ⟨g, 0, none⟩) sLen sCap) (hx : a.eval x = .int .i64 kI) (olds : List Value) (hol : olds.length = sLen * size) (holds : ∀ j v, olds[j]? = some v → w.cell? ⟨g, j, none⟩ = some v)
    (h0 : 0 < k) (hg : sCap < sLen + k) (hb : (sLen + k) * bytes ≤ 140737488355328) (h63 : sLen + k ≤ 9223372036854775807)
    (h : ∀ cap row w', Below w.heap.size w w' → w'.heap[w.heap.size]? = some (.cells row e (0, 0)) → w'.heap.size = w.heap.size + 1 → row.toList.take (sLen * size) = olds → row.size = cap * size → sLen + k ≤ cap → cap ≤ 9223372036854775807 → wpList P ops Q rest (a.put o.dst (.slice (some ⟨w.heap.size, 0, none⟩) (sLen + k) cap)) w') : wpList P ops Q (o :: rest) a w :=
  wpList_plain hgd fun K hK => by
    subst hsz hby hk
    have hf := run_firstCells_some (P := P) w.drew i.size sLen ⟨g, 0, none⟩ sLen sCap olds hol (fun j v hv => by rw [add_at, Nat.zero_add]; exact holds j v hv)
    have hkb : k * i.bytes ≤ 281474976710656 := Nat.le_trans (Nat.le_trans (Nat.mul_le_mul_right _ (Nat.le_add_left k sLen)) hb) (by decide)
    have hr := Lib.run_append_grow_zeros w t tn o.type e i z .i64 kn ht htn hi hz (some ⟨g, 0, none⟩) sLen sCap olds hf k h0 h0s hg (by omega) hkb (growslice_fits hg hb)
    unfold Oper.wp execOp
    simp only [ho, resolve, invoke, builtin, Sem.run_bind, Sem.run_pure, Result.andThen_ok, List.map_toArray, List.map_cons, List.map_nil, hs, hx, hr]
    have hge := grownCap_ge w (sLen + k) sCap e
    have hle := grownCap_le_maxLen w (sLen + k) sCap e (by unfold maxLen; omega)
    have hmx : maxLen = 9223372036854775807 := by decide
    refine hK _ _ (h _ _ _ ((Below.refl _ w).drew.alloc (Nat.le_refl _) _) (heap_alloc_new w.drew _) (Array.size_push ..) ?_ ?_ hge (by omega))
    · rw [Array.toList_append, Array.toList_append, List.append_assoc, List.take_left' (by simpa using hol)]
    · rw [Array.size_append, Array.size_append, zc_size, zc_size, hzs, List.size_toArray, hol, ← Nat.add_mul, ← Nat.add_mul]
      congr 1
      omega
end
section
variable {α : Type}
/-- In place: what stood behind is moved on, the new one put between. -/
theorem ins_place (F yc cur : List α) (a k N : Nat) (hN : F.length = N) (ha : a ≤ N) (hy : yc.length = k) (hcur : cur.take N = F) (hroom : N + k ≤ cur.length) (c1 : List α) (h1 : c1 = cur.take (a + k) ++ F.drop a ++ cur.drop (a + k + (F.drop a).length)) :
    (c1.take a ++ yc ++ c1.drop (a + yc.length)).take (N + k) = F.take a ++ yc ++ F.drop a ∧ (c1.take a ++ yc ++ c1.drop (a + yc.length)).length = cur.length ∧ c1.length = cur.length := by
  have e1 : c1.take a = F.take a := by
    rw [h1, List.append_assoc, List.take_append_of_le_length (by rw [List.length_take]; omega), List.take_take, Nat.min_eq_left (by omega), ← hcur, List.take_take, Nat.min_eq_left ha]
  have e2 : c1.drop (a + k) = F.drop a ++ cur.drop (a + k + (F.drop a).length) := by
    rw [h1, List.append_assoc, List.drop_left' (by rw [List.length_take]; omega)]
  have l1 : c1.length = cur.length := by
    rw [h1]; simp only [List.length_append, List.length_take, List.length_drop]; omega
  refine ⟨?_, ?_, l1⟩
  · rw [hy, e1, e2, ← List.append_assoc, List.take_left' (by simp only [List.length_append, List.length_take, List.length_drop]; omega)]
  · rw [hy]; simp only [List.length_append, List.length_take, List.length_drop, l1]; omega
/-- In a row of its own. -/
theorem ins_fresh (F yc row : List α) (a k N : Nat) (hN : F.length = N) (ha : a ≤ N) (hy : yc.length = k) (hrow : row.take a = F.take a) (hroom : N + k ≤ row.length) (c1 : List α) (h1 : c1 = row.take a ++ yc ++ row.drop (a + yc.length)) :
    (c1.take (a + k) ++ F.drop a ++ c1.drop (a + k + (F.drop a).length)).take (N + k) = F.take a ++ yc ++ F.drop a ∧ (c1.take (a + k) ++ F.drop a ++ c1.drop (a + k + (F.drop a).length)).length = row.length ∧ c1.length = row.length := by
  have l1 : c1.length = row.length := by rw [h1]; simp only [List.length_append, List.length_take, List.length_drop]; omega
  have e1 : c1.take (a + k) = F.take a ++ yc := by
    rw [h1, List.take_left' (by simp only [List.length_append, List.length_take]; omega), hrow]
  refine ⟨?_, ?_, l1⟩
  · rw [e1, List.take_left' (by simp only [List.length_append, List.length_take, List.length_drop]; omega)]
  · simp only [List.length_append, List.length_take, List.length_drop, l1]; omega
end
theorem flatO_len {L : List OT} (h : ∀ x ∈ L, OT.Ok x) : (flatO L).length = L.length * 79 := by
  induction L with
  | nil => rfl
  | cons x L ih =>
    show (x.o.c.toList ++ flatO L).length = _
    rw [List.length_append, ok_size (h x (List.mem_cons_self ..)), ih (fun y hy => h y (List.mem_cons_of_mem _ hy)), List.length_cons]
    omega
theorem flatO_append (L M : List OT) : flatO (L ++ M) = flatO L ++ flatO M := by unfold flatO; simp
theorem flatO_take {L : List OT} (h : ∀ x ∈ L, OT.Ok x) (i : Nat) : flatO (L.take i) = (flatO L).take (i * 79) ∧ flatO (L.drop i) = (flatO L).drop (i * 79) := by
  have hl : (flatO (L.take i)).length = min i L.length * 79 := by rw [flatO_len (fun x hx => h x (List.mem_of_mem_take hx)), List.length_take]
  have e : flatO L = flatO (L.take i) ++ flatO (L.drop i) := by rw [← flatO_append, List.take_append_drop]
  rcases Nat.lt_or_ge i L.length with hi | hi
  · have hl2 : (flatO (L.take i)).length = i * 79 := by rw [hl, Nat.min_eq_left (by omega)]
    rw [e, List.take_left' hl2, List.drop_left' hl2]
    exact ⟨rfl, rfl⟩
  · rw [List.take_of_length_le hi, List.drop_eq_nil_of_le hi, List.take_of_length_le (by rw [flatO_len h]; exact Nat.mul_le_mul_right _ hi), List.drop_eq_nil_of_le (by rw [flatO_len h]; exact Nat.mul_le_mul_right _ hi)]
    exact ⟨rfl, rfl⟩
theorem flatO_one {L : List OT} (h : ∀ x ∈ L, OT.Ok x) : ∀ v ∈ flatO L, v.oneCell' = true := by
  intro v hv
  unfold flatO at hv
  obtain ⟨x, hx, hv⟩ := List.mem_flatMap.1 hv
  exact (Array.all_eq_true_iff_forall_mem.1 (ot_one (h x hx).vc)) v (Array.mem_toList_iff.1 hv)
def insO (i : Nat) (y : OT) (L : List OT) : List OT := L.take i ++ y :: L.drop i
theorem insO_ok {L : List OT} {y : OT} {i : Nat} (h : ∀ x ∈ L, OT.Ok x) (hy : OT.Ok y) : ∀ x ∈ insO i y L, OT.Ok x := by
  intro x hx
  unfold insO at hx
  rcases List.mem_append.1 hx with hx | hx
  · exact h x (List.mem_of_mem_take hx)
  · rcases List.mem_cons.1 hx with rfl | hx
    · exact hy
    · exact h x (List.mem_of_mem_drop hx)
theorem insO_flat {L : List OT} (h : ∀ x ∈ L, OT.Ok x) (i : Nat) (y : OT) : flatO (insO i y L) = (flatO L).take (i * 79) ++ y.o.c.toList ++ (flatO L).drop (i * 79) := by
  unfold insO
  rw [flatO_append, (flatO_take h i).1]
  show _ ++ (y.o.c.toList ++ flatO (L.drop i)) = _
  rw [(flatO_take h i).2, List.append_assoc]
theorem insO_len {L : List OT} {i : Nat} (h : i ≤ L.length) (y : OT) : (insO i y L).length = L.length + 1 := by
  unfold insO
  rw [List.length_append, List.length_cons, List.length_take, List.length_drop]; omega
end Go.Proofs.YtffcpmohanhihaaGreatDoor
