/-
  The words that the walks of this seat share: small facts of worlds and rows, vectors as lists of whole numbers. No condition.
  dec.parse, walked case by case. No condition beside those that name the case.
-/
import Derived.Test.YtffcpmohanhihaaGreatDoorProg
import Derived.WalkKit
import Derived.WalkSpells
import Derived.WalkLawsBesides
import Derived.Laws.Rows
import Derived.Lib.QuietBelow
import Derived.Lib.Hide
import Derived.BigQuiet
import Derived.Test.YtffcpmohanhihaaGreatDoorJ1
import Derived.Handy
namespace Go.Proofs.YtffcpmohanhihaaGreatDoor
open Go.RowKit

theorem ret_int {k : IntKind} {a b : Int} (h : a = b) : Ending.returned (.int k a) = .returned (.int k b) := by rw [h]
theorem ret_bool {a b : Bool} (h : a = b) : Ending.returned (.bool a) = .returned (.bool b) := by rw [h]
theorem bcell {w w1 : World} {B : Nat} (hb : Below B w w1) : (∀ b o, b < B → w1.cell? ⟨b, o, none⟩ = w.cell? ⟨b, o, none⟩) ∧ (∀ b o, b < B → w1.frozen? ⟨b, o, none⟩ = w.frozen? ⟨b, o, none⟩) :=
  ⟨fun b o h => hb.cell (p := ⟨b, o, none⟩) h, fun b o h => hb.frozen (p := ⟨b, o, none⟩) h⟩
theorem below_then {B : Nat} {w w1 w2 : World} (h : Below B w w1) (hB : B ≤ w1.heap.size) (k : Below w1.heap.size w1 w2) : Below B w w2 := h.trans (k.mono hB)
theorem below_alloc {w W : World} (h : Below w.heap.size w W) (o : Obj) : Below w.heap.size w (W.alloc o) := h.alloc h.size o
/-- A whole row stored into a block that is known. -/
theorem wpList_store_row {P : Program} {ops : Array Oper} {rest : List Oper} {o : Oper} {a : Act} {w : World} {Q : Exit → Act → World → Prop} (hwt : Region.wanted o (yielded ops a.tmps) = true) (ty : TypeId) (x y : Operand) (ho : o.op = .store ty x y)
    (g : Nat) (cells : Array Value) (hx : a.eval x = .pointer (some ⟨g, 0, none⟩)) (hy : a.eval y = .agg cells)
    (t : TypeId) (old : Array Value) (hg : w.heap[g]? = some (.cells old t (0, 0))) (hi : (P.info? ty).map (·.size) = some cells.size)
    (hold : old.size = cells.size) (h1 : cells.all (·.oneCell') = true)
    (h : ∀ w', Below g w w' → w'.heap[g]? = some (.cells cells t (0, 0)) → (∀ k, k ≠ g → w'.heap[k]? = w.heap[k]?) → w'.heap.size = w.heap.size → wpList P ops Q rest (a.put o.dst undef) w') : wpList P ops Q (o :: rest) a w :=
  BigFrame.wpList_want hwt fun _ hK => wp_store_row ty x y ho g cells hx hy t old hg hi hold h1 (hK _ _ (h _ ⟨rfl, rfl, rfl, by simp, fun k hk => setRow_other _ _ _ _ (by omega)⟩ (setRow_heap _ _ _ _ _ _ hg) (fun k hk => setRow_other _ _ _ _ (by omega)) (by simp)))
/-- A whole row read out of a block that is known. -/
theorem wpList_load_row' {P : Program} {ops : Array Oper} {rest : List Oper} {o : Oper} {a : Act} {w : World} {Q : Exit → Act → World → Prop} (hwt : Region.wanted o (yielded ops a.tmps) = true) (ty : TypeId) (x : Operand) (ho : o.op = .load ty x)
    (g : Nat) (hx : a.eval x = .pointer (some ⟨g, 0, none⟩)) (t : TypeId) (cs : Array Value) (fr : Nat × Nat) (d : TypeDesc) (hg : w.heap[g]? = some (.cells cs t fr))
    (hu : P.underlying ty = some d) (hd : (match d with | .struct _ | .array _ _ => true | _ => false) = true) (hi : (P.info? ty).map (·.size) = some cs.size)
    (h : wpList P ops Q rest (a.put o.dst (.agg cs)) w) : wpList P ops Q (o :: rest) a w :=
  BigFrame.wpList_want hwt fun _ hK => wp_load_row ty x ho g hx t cs fr d hg hu hd hi (hK _ _ h)
/-- A row read in a region whose order is open. -/
theorem quiet_load_row {P : Program} {C : World → Prop} {o : Oper} {a : Act} {K : Act → Prop} (ty : TypeId) (x : Operand) (ho : o.op = .load ty x)
    (g : Nat) (hx : a.eval x = .pointer (some ⟨g, 0, none⟩)) (t : TypeId) (cs : Array Value) (fr : Nat × Nat) (d : TypeDesc) (hg : ∀ w, C w → w.heap[g]? = some (.cells cs t fr))
    (hu : P.underlying ty = some d) (hd : (match d with | .struct _ | .array _ _ => true | _ => false) = true) (hi : (P.info? ty).map (·.size) = some cs.size)
    (h : K (a.put o.dst (.agg cs))) : o.quiet P a C K := by
  refine ⟨_, fun w hw => ?_, h⟩
  unfold Oper.quietAt execOp
  simp only [ho, hx, Instr.loadAt, Instr.sureAddr, Sem.run_bind, Sem.run_pure, Result.andThen_ok, run_loadVar_row w g t ty cs fr d (hg w hw) hu hd hi]
  exact ⟨rfl, rfl⟩
/-- A call in a region whose order is open: its contract ends in 'Below'. -/
theorem grown_calls {P : Program} {f : FuncId} {args : Array Value} {w : World} {v : Value} (h : ∀ W, Below w.heap.size w W → Calls P f args W fun e w' => e = .returned v ∧ Below W.heap.size W w') (d : Nat) (os : Array Obj) :
    Calls P f args (Go.Sort.grow (redrawn w d) os) fun e w'' => e = .returned v ∧ ∃ p : Regrown, w'' = Go.Sort.grow (redrawn w p.d) p.os := Calls.regrown_of (h _ (below_regrown w d os))
theorem row_regrown {w : World} {b : Nat} {o : Obj} (h : w.heap[b]? = some o) (W : World) (hW : ∃ p : Regrown, W = Go.Sort.grow (redrawn w p.d) p.os) : W.heap[b]? = some o := by
  obtain ⟨p, rfl⟩ := hW
  rw [(below_regrown w p.d p.os).block b (Array.getElem?_eq_some_iff.1 h).1]
  exact h

theorem heap3_0 (w : World) (A B C : Obj) : (((w.alloc A).alloc B).alloc C).heap[w.heap.size]? = some A := by
  rw [Below.heap_alloc _ _ _ (by simp; omega)]; exact heap_alloc2_old _ _ _
theorem heap3_1 (w : World) (A B C : Obj) : (((w.alloc A).alloc B).alloc C).heap[w.heap.size + 1]? = some B := by
  rw [Below.heap_alloc _ _ _ (by simp)]; exact heap_alloc2_new _ _ _
theorem heap3_2 (w : World) (A B C : Obj) : (((w.alloc A).alloc B).alloc C).heap[w.heap.size + 2]? = some C := by
  have h := heap_alloc_new ((w.alloc A).alloc B) C
  simpa using h

theorem own_base {w : World} {base : Nat} {e : TypeId} {size n : Nat} {v : Value} {xs : List Value} (h : w.ownsRow base e size v n xs) (k : Nat) (hk : v.ownBlock = some k) : base ≤ k ∧ k < w.heap.size := by
  rcases h.2 with ⟨rfl, _⟩ | ⟨g, cap, cur, rfl, hb, hh, _⟩
  · simp [Value.ownBlock] at hk
  · have : g = k := by simpa [Value.ownBlock] using hk
    subst this
    exact ⟨hb, (Array.getElem?_eq_some_iff.1 hh).1⟩
theorem own_nil (W : World) (base : Nat) (e : TypeId) (size : Nat) : W.ownsRow base e size (.slice none 0 0) 0 [] := ⟨by simp, .inl ⟨rfl, rfl⟩⟩
/-- What is owned stays so, where its block stays. -/
theorem own_move {w w1 : World} {base : Nat} {e : TypeId} {size n : Nat} {v : Value} {xs : List Value} (h : w.ownsRow base e size v n xs) (hm : ∀ k, v.ownBlock = some k → w1.heap[k]? = w.heap[k]?) : w1.ownsRow base e size v n xs := by
  obtain ⟨h1, h2⟩ := h
  refine ⟨h1, ?_⟩
  rcases h2 with h2 | ⟨g, cap, cur, rfl, hg, hh, r⟩
  · exact .inl h2
  · exact .inr ⟨g, cap, cur, rfl, hg, (hm g (by simp [Value.ownBlock])).trans hh, r⟩
theorem own_below {w w1 : World} {base : Nat} {e : TypeId} {size n : Nat} {v : Value} {xs : List Value} (h : w.ownsRow base e size v n xs) (hb : Below w.heap.size w w1) : w1.ownsRow base e size v n xs :=
  own_move h fun k hk => hb.block k (own_base h k hk).2
/-- append(v, x): one element, of whatever cells, onto a slice of the call's own; the element lies in the block made last. -/
theorem append_one {P : Program} {ops : Array Oper} {rest : List Oper} {o : Oper} {a : Act} {w : World} {Q : Exit → Act → World → Prop} (hgd : o.guard = none) (s x : Operand) (t e : TypeId)
    (ho : o.op = .call { callee := .builtin .append, args := #[s, x], argTypes := #[t, t] })
    (base : Nat) (z : Value) (size bytes : Nat) (ht : P.underlying t = some (.slice e)) (hinfo : (P.info? e).map (fun i => (i.zero, i.size, i.bytes)) = some (some z, size, bytes)) (hzs : z.cells.size = size) (hsz : 0 < size) (hb0 : 0 < bytes)
    (v : Value) (n : Nat) (xs : List Value) (hs : a.eval s = v) (hown : w.ownsRow base e size v n xs) (cs : Array Value) (hcs : cs.size = size) (h1 : cs.toList.all (·.oneCell') = true)
    (hx : a.eval x = .slice (some ⟨w.heap.size, 0, none⟩) 1 1) (hbytes : (n + 1) * bytes ≤ 140737488355328) (hbase : base ≤ w.heap.size)
    (h : ∀ v' w', w'.ownsRow base e size v' (n + 1) (xs ++ cs.toList) → (∀ k, k < w.heap.size → v.ownBlock ≠ some k → w'.heap[k]? = w.heap[k]?) → Below base w w' → wpList P ops Q rest (a.put o.dst v') w') : wpList P ops Q (o :: rest) a (w.alloc (.cells cs e)) := by
  obtain ⟨i0, hi, hzz⟩ := Option.map_eq_some_iff.1 hinfo
  simp only [Prod.mk.injEq] at hzz
  obtain ⟨hz0, hz1, hz2⟩ := hzz
  have hlen : n + 1 ≤ 140737488355328 := Nat.le_trans (Nat.le_mul_of_pos_right _ hb0) hbytes
  refine wpList_append_own (w.alloc (.cells cs e)) hgd s x t ho base e i0 z size bytes ht hi hz0 hz1 hz2 hzs hsz v n xs hs (hown.alloc _) ⟨w.heap.size, 0, none⟩ 1 1 cs.toList hx (by simp [hcs])
    (fun j u hu => by
      have hadd : (⟨w.heap.size, 0, none⟩ : Addr).add j = ⟨w.heap.size, j, none⟩ := by unfold Addr.add; split <;> simp_all
      rw [hadd, cell_of_row _ w.heap.size j cs e (0, 0) (heap_alloc_new w _)]
      simpa using hu)
    (fun u hu => (List.all_eq_true.1 h1) u hu) (by simp only [maxLen]; omega) hbytes (by simp; omega) ?_
  intro v' w' hown' hg _
  refine h v' w' hown' (fun k hk hne => ?_) ⟨hg.os, hg.tape, hg.output, Nat.le_trans (by simp) hg.size, fun k hk => ?_⟩
  · rw [hg.block k (by simp; omega) (fun e => hne e.symm), Below.heap_alloc _ _ _ hk]
  · rw [hg.block k (by simp; omega) (fun e => by have := (own_base hown k e.symm).1; omega), Below.heap_alloc _ _ _ (by omega)]

def vat (v : List Int) (i : Nat) : Int := v.getD i 0
def vcells (v : List Int) : Array Value := (v.map (Value.int .i64)).toArray
theorem vcells_get (v : List Int) (i : Nat) (h : i < v.length) : (vcells v)[i]? = some (.int .i64 (vat v i)) := by
  simp [vcells, vat, List.getElem?_eq_getElem h, List.getD_eq_getElem?_getD]
theorem vcells_size (v : List Int) : (vcells v).size = v.length := by simp [vcells]
theorem vcells_set (v : List Int) (k : Nat) (x : Int) : (vcells v).setIfInBounds k (.int .i64 x) = vcells (v.set k x) := by simp [vcells, List.map_set]
theorem vcells_one (v : List Int) : (vcells v).all (·.oneCell') = true := by simp [vcells, Value.oneCell']
theorem vat_set (v : List Int) (k i : Nat) (x : Int) (h : k < v.length) : vat (v.set k x) i = if i = k then x else vat v i := by
  unfold vat
  simp only [List.getD_eq_getElem?_getD, List.getElem?_set]
  by_cases hk : k = i
  · subst hk; simp [h]
  · rw [if_neg hk, if_neg (fun e => hk e.symm)]
theorem vat_ext {v u : List Int} (hl : v.length = u.length) (h : ∀ i, i < v.length → vat v i = vat u i) : v = u := by
  apply List.ext_getElem hl
  intro i h1 h2
  have := h i h1
  simpa [vat, List.getD_eq_getElem?_getD, List.getElem?_eq_getElem h1, List.getElem?_eq_getElem h2] using this
end Go.Proofs.YtffcpmohanhihaaGreatDoor
namespace Go.Proofs.YtffcpmohanhihaaGreatDoor
open Go.RowKit
set_option linter.unusedVariables false
set_option linter.unusedSimpArgs false
/-- A number, as dec keeps it. -/
def numV (x : Bool × List UInt8 × Int) : Value := .agg #[.bool x.1, .string ⟨x.2.1.toArray⟩, .int .i64 x.2.2]
def parseV (x : Option (Bool × List UInt8 × Int)) : Value := .tuple #[numV (x.getD (false, [], 0)), .bool x.isSome]
theorem results_row_tmp {P : Program} {fn : Func} {p t : Tmp} {ty : TypeId} (h : fn.results = #[.cell p ty, .tmp t]) (tmps : Array Value) (w : World) (g : Nat) (t' : TypeId) (cs : Array Value) (fr : Nat × Nat) (d : TypeDesc) (v : Value)
    (hp : tmps.getD p undef = .pointer (some ⟨g, 0, none⟩)) (hv : tmps.getD t undef = v) (hg : w.heap[g]? = some (.cells cs t' fr))
    (hu : P.underlying ty = some d) (hd : (match d with | .struct _ | .array _ _ => true | _ => false) = true) (hi : (P.info? ty).map (·.size) = some cs.size) :
    (results fn tmps).run P w = .ok (.tuple #[.agg cs, v]) w := by
  have hp' : tmps[p]?.getD undef = .pointer (some ⟨g, 0, none⟩) := by simpa using hp
  have hv' : tmps[t]?.getD undef = v := by simpa using hv
  simp [results, h, hp', hv', asAddr, run_loadVar_row w g t' ty cs fr d hg hu hd hi]

theorem new_row (w : World) (o : Obj) (n : Nat) : ((w.alloc o).drewN n).heap[w.heap.size]? = some o := by rw [show ((w.alloc o).drewN n).heap = (w.alloc o).heap from by simp [World.drewN]]; exact heap_alloc_new _ _
theorem new_below (w : World) (o : Obj) (n : Nat) : Below w.heap.size w ((w.alloc o).drewN n) :=
  have h := (Below.refl w.heap.size w).alloc (Nat.le_refl _) o
  by cases n <;> exact ⟨h.os, h.tape, h.output, h.size, h.block⟩
theorem num_one {a : Bool} {b : ByteArray} {c : Int} : (#[.bool a, .string b, .int .i64 c] : Array Value).all (·.oneCell') = true := by simp [Value.oneCell']
theorem num_info {a b c : Value} : (Tryz.prog.info? 203).map (·.size) = some (#[a, b, c] : Array Value).size := by kernel_rfl


set_option maxRecDepth 100000 in
set_option maxHeartbeats 2000000 in
theorem parse_long (s : ByteArray) (w : World) (hs : ¬ (s.size : Int) ≤ 400) :
    Calls Tryz.prog 157 #[.string s] w fun e w' => e = .returned (parseV none) ∧ Below w.heap.size w w' := by
  go_enter Tryz.func157, Tryz.ntmps157
  go_wp2
  all_goals (go_returns; exact ⟨rfl, by first | exact Below.refl _ _ | exact ((Below.refl _ _).alloc (Nat.le_refl _) _)⟩)

set_option maxRecDepth 100000 in
set_option maxHeartbeats 2000000 in
theorem parse_zero (s : ByteArray) (w : World) (hs : s.size ≤ 400) (b : Bool) (R : ByteArray) (n : Nat) (hm : Lib.hasPrefix s.data.toList [45] = b) (hR : (⟨(Lib.trimPrefix s.data.toList [45]).toArray⟩ : ByteArray) = R) (hRs : R.size ≤ 400) (hn : digN R.data.toList = n) (hn1 : n ≤ R.size) (h0 : n = 0) :
    Calls Tryz.prog 157 #[.string s] w fun e w' => e = .returned (parseV none) ∧ Below w.heap.size w w' := by
  have HR := Lib.hid hR
  have Hm := Lib.hid hm
  have Hn := Lib.hid hn
  clear hR hm hn
  subst h0
  go_enter Tryz.func157, Tryz.ntmps157
  go_wp2_with (first | (go_at_call 164; refine (Tryz.strings_CutPrefix _ _ _).mono ?_; rintro e w1 ⟨rfl, hw⟩; rw [hw]; clear hw; rw [HR.out, Hm.out]) | (go_at_call 165; refine (digits_any _ _ (by omega)).mono ?_; rintro e w1 ⟨rfl, hw⟩; rw [hw]; clear hw; rw [Hn.out]))
  all_goals (go_returns; exact ⟨rfl, by first | exact Below.refl _ _ | exact ((Below.refl _ _).alloc (Nat.le_refl _) _)⟩)

set_option maxRecDepth 100000 in
set_option maxHeartbeats 2000000 in
theorem parse_lead (s : ByteArray) (w : World) (hs : s.size ≤ 400) (b : Bool) (R : ByteArray) (n : Nat) (hm : Lib.hasPrefix s.data.toList [45] = b) (hR : (⟨(Lib.trimPrefix s.data.toList [45]).toArray⟩ : ByteArray) = R) (hRs : R.size ≤ 400) (hn : digN R.data.toList = n) (hn1 : n ≤ R.size) (h0 : 1 < n) (hz : 0 < R.size) (hz2 : ((R[0]'hz).toNat : Int) = 48) :
    Calls Tryz.prog 157 #[.string s] w fun e w' => e = .returned (parseV none) ∧ Below w.heap.size w w' := by
  have HR := Lib.hid hR
  have Hm := Lib.hid hm
  have Hn := Lib.hid hn
  clear hR hm hn
  have h00 : ¬ (n : Int) = 0 := by omega
  go_enter Tryz.func157, Tryz.ntmps157
  go_wp2_with (first | (go_at_call 164; refine (Tryz.strings_CutPrefix _ _ _).mono ?_; rintro e w1 ⟨rfl, hw⟩; rw [hw]; clear hw; rw [HR.out, Hm.out]) | (go_at_call 165; refine (digits_any _ _ (by omega)).mono ?_; rintro e w1 ⟨rfl, hw⟩; rw [hw]; clear hw; rw [Hn.out]))
  all_goals (go_returns; exact ⟨rfl, by first | exact Below.refl _ _ | exact ((Below.refl _ _).alloc (Nat.le_refl _) _)⟩)

set_option maxRecDepth 100000 in
set_option maxHeartbeats 2000000 in
theorem parse_dotfail (s : ByteArray) (w : World) (hs : s.size ≤ 400) (b : Bool) (R : ByteArray) (n : Nat) (hm : Lib.hasPrefix s.data.toList [45] = b) (hR : (⟨(Lib.trimPrefix s.data.toList [45]).toArray⟩ : ByteArray) = R) (hRs : R.size ≤ 400) (hn : digN R.data.toList = n) (hn1 : n ≤ R.size) (hn0 : 0 < n) (h00 : n ≤ 1 ∨ ∃ h : 0 < R.size, ¬ ((R[0]'h).toNat : Int) = 48) (Wh R2 : ByteArray) (hWh : R.extract 0 n = Wh) (hW1 : 1 ≤ Wh.size) (hWs : Wh.size ≤ 400) (hR2 : R.extract n R.size = R2) (hR2s : R2.size ≤ 400) (hd : Lib.hasPrefix R2.data.toList [46] = true) (hR2p : 1 ≤ (R2.size : Int)) (R3 : ByteArray) (hR3 : R2.extract 1 R2.size = R3) (hR3s : R3.size ≤ 400) (hk : digN R3.data.toList = 0) :
    Calls Tryz.prog 157 #[.string s] w fun e w' => e = .returned (parseV none) ∧ Below w.heap.size w w' := by
  have HR := Lib.hid hR
  have Hm := Lib.hid hm
  have Hn := Lib.hid hn
  clear hR hm hn
  have H00 := Lib.hid h00
  have Hd := Lib.hid hd
  clear h00 hd
  have Hk := Lib.hid hk
  clear hk
  go_enter Tryz.func157, Tryz.ntmps157
  go_wp2_with (first | (go_at_call 164; refine (Tryz.strings_CutPrefix _ _ _).mono ?_; rintro e w1 ⟨rfl, hw⟩; rw [hw]; clear hw; rw [HR.out, Hm.out]) | (go_at_call 165; refine (digits_any _ _ (by omega)).mono ?_; rintro e w1 ⟨rfl, hw⟩; rw [hw]; clear hw; first | rw [Hn.out] | rw [Hk.out]) | (go_at_call 166; refine (Tryz.strings_HasPrefix _ _ _).mono ?_; rintro e w1 ⟨rfl, hw⟩; rw [hw]; clear hw; rw [Hd.out]))
  all_goals first | (exfalso; rcases H00.out with h | ⟨h, h2⟩ <;> first | omega | (apply h2; assumption) | (apply h2; simp_all; done)) | (go_returns; exact ⟨rfl, by first | exact Below.refl _ _ | exact ((Below.refl _ _).alloc (Nat.le_refl _) _)⟩)


end Go.Proofs.YtffcpmohanhihaaGreatDoor
