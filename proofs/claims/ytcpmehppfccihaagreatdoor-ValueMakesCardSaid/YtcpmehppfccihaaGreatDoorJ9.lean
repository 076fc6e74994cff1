/-
  value.Copy's first region: both rows cloned. Condition: what Clone tells is known.
  What stands between two rounds of value.Copy's loops, in plain Lean. No condition.
-/
import Derived.Test.YtcpmehppfccihaaGreatDoorCopyRJ
import Derived.Test.YtcpmehppfccihaaGreatDoorJ8
namespace Go.Proofs.YtcpmehppfccihaaGreatDoor
open Go.RowKit
set_option linter.unusedVariables false
set_option linter.unusedSimpArgs false
set_option linter.unusedSectionVars false
theorem all_mem {a : Array Value} (h : a.all (·.oneCell') = true) : ∀ u ∈ a.toList, u.oneCell' = true := fun u hu => by
  rw [← Array.all_toList] at h
  exact List.all_eq_true.1 h u hu
/-- A slice over a row of its own, at a block from B on. -/
def Cl (T : TypeId) (sz B n : Nat) (E : Nat → Array Value) (v : Value) (W : World) : Prop :=
  ∃ A g cap cur, v = .slice A n cap ∧ (0 < n → A = some ⟨g, 0, none⟩ ∧ B ≤ g ∧ W.heap[g]? = some (.cells cur T (0, 0)) ∧ cur.size = cap * sz ∧ n ≤ cap ∧ ∀ i, i < n → ∀ (j : Nat) u, (E i)[j]? = some u → cur[i * sz + j]? = some u)
theorem Cl.low {T : TypeId} {sz B B' n : Nat} {E : Nat → Array Value} {v : Value} {W : World} (h : Cl T sz B n E v W) (hB : B' ≤ B) : Cl T sz B' n E v W := by
  obtain ⟨A, g, cap, cur, hv, h⟩ := h
  exact ⟨A, g, cap, cur, hv, fun hn => by obtain ⟨h1, h2, h3⟩ := h hn; exact ⟨h1, Nat.le_trans hB h2, h3⟩⟩
theorem Cl.step {T : TypeId} {sz B n : Nat} {E : Nat → Array Value} {v : Value} {W W' : World} (h : Cl T sz B n E v W) (hb : Below W.heap.size W W') : Cl T sz B n E v W' := by
  obtain ⟨A, g, cap, cur, hv, h⟩ := h
  refine ⟨A, g, cap, cur, hv, fun hn => ?_⟩
  obtain ⟨h1, h2, h3, h4⟩ := h hn
  exact ⟨h1, h2, (hb.block g (Array.getElem?_eq_some_iff.1 h3).1).trans h3, h4⟩
theorem cl_of_row {T : TypeId} {sz B n : Nat} {E : Nat → Array Value} {v : Value} {W : World} (h0 : 0 < sz) (hE : ∀ i, ((E i).toList).length = sz) (h : W.ownsRow B T sz v n (flatL (fun i => (E i).toList) n)) (hv : v ≠ .slice none 0 0) : Cl T sz B n E v W := by
  obtain ⟨hl, h | ⟨g, cap, cur, e, hb, hg, hn, hc, hs, ht⟩⟩ := h
  · exact absurd h.1 hv
  · refine ⟨some ⟨g, 0, none⟩, g, cap, cur, e, fun _ => ⟨rfl, hb, hg, hs, hn, fun i hi j u hu => ?_⟩⟩
    have hj : j < sz := by have h1 := (Array.getElem?_eq_some_iff.1 hu).1; have h2 := hE i; simp at h2; omega
    have h1 := flatL_get (fun i => (E i).toList) sz hE n i j hi hj
    rw [← ht] at h1
    have hlt : i * sz + j < n * sz := by
      have : (i + 1) * sz ≤ n * sz := Nat.mul_le_mul_right sz hi
      rw [Nat.add_mul, Nat.one_mul] at this
      omega
    rw [List.getElem?_take_of_lt hlt] at h1
    have h2 : (E i).toList[j]? = some u := by rw [Array.getElem?_toList]; exact hu
    rw [← Array.getElem?_toList, h1]
    exact h2
theorem cl_nil {T : TypeId} {sz B : Nat} {E : Nat → Array Value} {W : World} : Cl T sz B 0 E (.slice none 0 0) W := ⟨none, 0, 0, #[], rfl, fun h => absurd h (Nat.lt_irrefl 0)⟩
theorem cloneV_any {w : World} {t : VT} (ht : VT.In w.heap.size w t) (hs : t.ln * 80 ≤ 140737488355328) :
    Calls Tryz.prog 57 #[.slice t.lA t.ln t.lc] w fun e w' => ∃ v, e = .returned v ∧ Cl 27 5 w.heap.size t.ln (fun i => (t.lt i).c) v w' ∧ Below w.heap.size w w' := by
  generalize hA : t.lA = A
  cases A with
  | none =>
    have h0 : t.ln = 0 := by
      rcases Nat.eq_zero_or_pos t.ln with h | h
      · exact h
      · have := (ht.here.la h).1; rw [hA] at this; cases this
    rw [h0]
    exact (cloneV_nil _ _ w).mono fun e w' ⟨he, hb⟩ => ⟨_, he, cl_nil, hb⟩
  | some ad =>
    refine (cloneV_some ad t.ln t.lc (flatL (fun i => (t.lt i).c.toList) t.ln) w (flatL_len _ 5 (fun i => rfl) _) hs ?_ (flatL_one _ _ (fun i => all_mem (VT.c_one _)))).mono fun e w' ⟨v, he, ho, hv, hb⟩ => ⟨v, he, cl_of_row (by decide) (fun i => rfl) ho hv, hb⟩
    intro j u hu
    obtain ⟨hi, hj⟩ := flatL_at _ 5 (fun i => rfl) (by decide) _ j u hu
    have had : ad = ⟨t.lb, t.lo, none⟩ := by have := (ht.here.la (by omega)).1; rw [hA] at this; exact Option.some.inj this
    subst had
    rw [add_row]
    have := ht.here.lcell (j / 5) hi (j % 5) u (by rw [← Array.getElem?_toList]; exact hj)
    rwa [show t.lo + j / 5 * 5 + j % 5 = t.lo + j by omega] at this
theorem cloneP_any {w : World} {t : VT} (ht : VT.In w.heap.size w t) (hs : t.mn * 96 ≤ 140737488355328) :
    Calls Tryz.prog 41 #[.slice t.mA t.mn t.mc] w fun e w' => ∃ v, e = .returned v ∧ Cl 34 6 w.heap.size t.mn (fun i => t.pc i) v w' ∧ Below w.heap.size w w' := by
  generalize hA : t.mA = A
  cases A with
  | none =>
    have h0 : t.mn = 0 := by
      rcases Nat.eq_zero_or_pos t.mn with h | h
      · exact h
      · have := (ht.here.ma h).1; rw [hA] at this; cases this
    rw [h0]
    exact (cloneP_nil _ _ w).mono fun e w' ⟨he, hb⟩ => ⟨_, he, cl_nil, hb⟩
  | some ad =>
    refine (cloneP_some ad t.mn t.mc (flatL (fun i => (t.pc i).toList) t.mn) w (flatL_len _ 6 (fun i => rfl) _) hs ?_ (flatL_one _ _ (fun i => all_mem (VT.pc_one _ _)))).mono fun e w' ⟨v, he, ho, hv, hb⟩ => ⟨v, he, cl_of_row (by decide) (fun i => rfl) ho hv, hb⟩
    intro j u hu
    obtain ⟨hi, hj⟩ := flatL_at _ 6 (fun i => rfl) (by decide) _ j u hu
    have had : ad = ⟨t.mb, t.mo, none⟩ := by have := (ht.here.ma (by omega)).1; rw [hA] at this; exact Option.some.inj this
    subst had
    rw [add_row]
    have := ht.here.mcell (j / 6) hi (j % 6) u (by rw [← Array.getElem?_toList]; exact hj)
    rwa [show t.mo + j / 6 * 6 + j % 6 = t.mo + j by omega] at this
/-- What was told, and two values of which something is known. -/
def HeadD (w0 : World) (val : Nat → Value) (n : Nat) (R S : Value → World → Prop) (θ : Nat → Value) (L : Nat → Bool) (W : World) : Prop :=
  (∀ i, i < n → i ≠ 2 → i ≠ 5 → L i = true → θ i = val i) ∧ Below w0.heap.size w0 W ∧ (L 2 = true → R (θ 2) W) ∧ (L 5 = true → S (θ 5) W)
theorem HeadD.keep {w0 : World} {val : Nat → Value} {n : Nat} {R S : Value → World → Prop} {θ : Nat → Value} {L : Nat → Bool} {W : World} (h : HeadD w0 val n R S θ L W) {i : Nat} (hi : i ≠ 2) (hi' : i ≠ 5) {v : Value} (hv : v = val i) : HeadD w0 val n R S (updV θ i v) (updL L i) W := by
  obtain ⟨h1, h2, h3, h4⟩ := h
  refine ⟨fun j hj hc hd hl => ?_, h2, fun hl => ?_, fun hl => ?_⟩
  · by_cases hji : j = i
    · subst hji; rw [updV_same]; exact hv
    · rw [updV_ne _ _ hji]; rw [updL_ne _ hji] at hl; exact h1 j hj hc hd hl
  · rw [updL_ne _ (Ne.symm hi)] at hl
    rw [updV_ne _ _ (Ne.symm hi)]
    exact h3 hl
  · rw [updL_ne _ (Ne.symm hi')] at hl
    rw [updV_ne _ _ (Ne.symm hi')]
    exact h4 hl
theorem HeadD.call2 {w0 : World} {val : Nat → Value} {n : Nat} {R S : Value → World → Prop} {θ : Nat → Value} {L : Nat → Bool} {W W' : World} (h : HeadD w0 val n R S θ L W) {v : Value} (hb : Below W.heap.size W W') (hR : R v W') (hS : ∀ v, S v W → S v W') : HeadD w0 val n R S (updV θ 2 v) (updL L 2) W' := by
  obtain ⟨h1, h2, h3, h4⟩ := h
  refine ⟨fun j hj hc hd hl => ?_, h2.trans (hb.mono h2.size), fun _ => by rw [updV_same]; exact hR, fun hl => ?_⟩
  · rw [updV_ne _ _ hc]; rw [updL_ne _ hc] at hl; exact h1 j hj hc hd hl
  · rw [updL_ne _ (by decide)] at hl; rw [updV_ne _ _ (by decide)]; exact hS _ (h4 hl)
theorem HeadD.call5 {w0 : World} {val : Nat → Value} {n : Nat} {R S : Value → World → Prop} {θ : Nat → Value} {L : Nat → Bool} {W W' : World} (h : HeadD w0 val n R S θ L W) {v : Value} (hb : Below W.heap.size W W') (hS : S v W') (hR : ∀ v, R v W → R v W') : HeadD w0 val n R S (updV θ 5 v) (updL L 5) W' := by
  obtain ⟨h1, h2, h3, h4⟩ := h
  refine ⟨fun j hj hc hd hl => ?_, h2.trans (hb.mono h2.size), fun hl => ?_, fun _ => by rw [updV_same]; exact hS⟩
  · rw [updV_ne _ _ hd]; rw [updL_ne _ hd] at hl; exact h1 j hj hc hd hl
  · rw [updL_ne _ (by decide)] at hl; rw [updV_ne _ _ (by decide)]; exact hR _ (h3 hl)
noncomputable def copy1 : Array Oper := regOf Tryz.f30 1
def val1 (b0 : Nat) (s3 s4 : Value) : Nat → Value := fun k => [.pointer (some ⟨b0, 3, none⟩), s3, undef, .pointer (some ⟨b0, 4, none⟩), s4, undef, .pointer (some ⟨b0, 3, none⟩)].getD k undef
set_option maxRecDepth 100000 in
set_option maxHeartbeats 1000000 in
theorem regCopy1 {ops : Array Oper} (hops : ops = copy1) {Q : Exit → Act → World → Prop} {a0 : Act} {wr : World} {b0 : Nat} {s3 s4 : Value} {box : Array Value} {RV RP : Value → World → Prop} (hz : 50 ≤ a0.tmps.size)
    (h1 : a0.eval (.tmp 1) = .pointer (some ⟨b0, 0, none⟩)) (hbox : wr.heap[b0]? = some (.cells box 27 (0, 0))) (hb3 : box[3]? = some s3) (hb4 : box[4]? = some s4)
    (HV : ∀ W, Below wr.heap.size wr W → Calls Tryz.prog 57 #[s3] W fun e w' => ∃ v, e = .returned v ∧ RV v w' ∧ Below W.heap.size W w')
    (HP : ∀ W, Below wr.heap.size wr W → Calls Tryz.prog 41 #[s4] W fun e w' => ∃ v, e = .returned v ∧ RP v w' ∧ Below W.heap.size W w')
    (kV : ∀ v W W', RV v W → Below W.heap.size W W' → RV v W') (kP : ∀ v W W', RP v W → Below W.heap.size W W' → RP v W')
    (hend : ∀ θ W, RV (θ 2) W → RP (θ 5) W → θ 6 = .pointer (some ⟨b0, 3, none⟩) → Below wr.heap.size wr W → wpList Tryz.prog ops Q (ops.toList.drop 7) (seqTo ops θ a0 7) W) :
    (Code.region 1 ops true).wp Tryz.prog Q a0 wr := by
  subst hops
  have hlb : b0 < wr.heap.size := (Array.getElem?_eq_some_iff.1 hbox).1
  have hsz : ∀ t, t < 50 → decide (t < a0.tmps.size) = true := fun t ht => decide_eq_true (by omega)
  refine wp_region_env 7 (by kernel_rfl) (by kernel_rfl) (by kernel_rfl) (of_decide_eq_true (by kernel_rfl)) (by kernel_rfl) (HeadD wr (val1 b0 s3 s4) 7 RV RP) ⟨fun _ => undef, ?_⟩ ?_ ?_
  · exact ⟨(fun i _ _ _ h => by cases h), (Below.refl _ _).drew, (fun h => by cases h), (fun h => by cases h)⟩
  · intro k o hk ho θ L W hC hLk hdep hlat
    have hT := hC.1
    have hB := hC.2.1
    have qb : W.heap[b0]? = some (.cells box 27 (0, 0)) := (hB.block b0 hlb).trans hbox
    rcases (show k = 0 ∨ k = 1 ∨ k = 2 ∨ k = 3 ∨ k = 4 ∨ k = 5 ∨ k = 6 by omega) with rfl | rfl | rfl | rfl | rfl | rfl | rfl
    · exact if_want (want_of ho (by kernel_rfl) _) (gives_field 27 (.tmp 1) 3 (op_of ho (by kernel_rfl)) (seq_old (by kernel_rfl) h1) (field3 b0) (hC.keep (by decide) (by decide) rfl))
    · have e0 : θ 0 = .pointer (some ⟨b0, 3, none⟩) := hT 0 (by decide) (by decide) (by decide) (hdep 0 (by kernel_rfl))
      exact if_want (want_of ho (by kernel_rfl) _) (gives_load_cell 24 (.tmp 5) (op_of ho (by kernel_rfl)) b0 3 (seq_at (by kernel_rfl) (hsz _ (by decide)) e0) _ box _ qb hb3 _ Tryz.underlying24 rfl (hC.keep (by decide) (by decide) rfl))
    · have e1 : θ 1 = s3 := hT 1 (by decide) (by decide) (by decide) (hdep 1 (by kernel_rfl))
      exact if_want (want_of ho (by kernel_rfl) _) (gives_call_ex #[.tmp 6] #[24] (op_of ho (by kernel_rfl)) (f := 57) Tryz.func57 (by kernel_rfl) rfl #[s3] (one_arg (seq_at (by kernel_rfl) (hsz _ (by decide)) e1))
        ((HV W hB).mono fun e w' ⟨v, he, hv, hb⟩ => ⟨v, he, hC.call2 hb hv fun v hS => kP v _ _ hS hb⟩))
    · exact if_want (want_of ho (by kernel_rfl) _) (gives_field 27 (.tmp 1) 4 (op_of ho (by kernel_rfl)) (seq_old (by kernel_rfl) h1) (field4 b0) (hC.keep (by decide) (by decide) rfl))
    · have e3 : θ 3 = .pointer (some ⟨b0, 4, none⟩) := hT 3 (by decide) (by decide) (by decide) (hdep 3 (by kernel_rfl))
      exact if_want (want_of ho (by kernel_rfl) _) (gives_load_cell 25 (.tmp 8) (op_of ho (by kernel_rfl)) b0 4 (seq_at (by kernel_rfl) (hsz _ (by decide)) e3) _ box _ qb hb4 _ Tryz.underlying25 rfl (hC.keep (by decide) (by decide) rfl))
    · have e4 : θ 4 = s4 := hT 4 (by decide) (by decide) (by decide) (hdep 4 (by kernel_rfl))
      exact if_want (want_of ho (by kernel_rfl) _) (gives_call_ex #[.tmp 9] #[25] (op_of ho (by kernel_rfl)) (f := 41) Tryz.func41 (by kernel_rfl) rfl #[s4] (one_arg (seq_at (by kernel_rfl) (hsz _ (by decide)) e4))
        ((HP W hB).mono fun e w' ⟨v, he, hv, hb⟩ => ⟨v, he, hC.call5 hb hv fun v hS => kV v _ _ hS hb⟩))
    · exact if_want (want_of ho (by kernel_rfl) _) (gives_field 27 (.tmp 1) 3 (op_of ho (by kernel_rfl)) (seq_old (by kernel_rfl) h1) (field3 b0) (hC.keep (by decide) (by decide) rfl))
  · intro θ L W hC hL
    exact hend θ W (hC.2.2.1 (by rw [hL]; rfl)) (hC.2.2.2 (by rw [hL]; rfl)) (hC.1 6 (by decide) (by decide) (by decide) (by rw [hL]; rfl)) hC.2.1
end Go.Proofs.YtcpmehppfccihaaGreatDoor
namespace Go.Proofs.YtcpmehppfccihaaGreatDoor
open Go.RowKit
set_option linter.unusedVariables false
set_option linter.unusedSimpArgs false
set_option linter.unusedSectionVars false
theorem splice_len (cur l : List Value) (p : Nat) (h : p + l.length ≤ cur.length) : (cur.take p ++ l ++ cur.drop (p + l.length)).length = cur.length := by
  simp only [List.length_append, List.length_take, List.length_drop]
  omega
theorem splice_get (cur l : List Value) (p q : Nat) (h : p + l.length ≤ cur.length) : (cur.take p ++ l ++ cur.drop (p + l.length))[q]? = if q < p then cur[q]? else if q < p + l.length then l[q - p]? else cur[q]? := by
  have hp : (cur.take p).length = p := by rw [List.length_take]; omega
  by_cases h1 : q < p
  · rw [if_pos h1, List.append_assoc, List.getElem?_append_left (by rw [hp]; exact h1), List.getElem?_take_of_lt h1]
  · rw [if_neg h1]
    by_cases h2 : q < p + l.length
    · rw [if_pos h2, List.getElem?_append_left (by rw [List.length_append, hp]; exact h2), List.getElem?_append_right (by rw [hp]; omega), hp]
    · rw [if_neg h2, List.getElem?_append_right (by rw [List.length_append, hp]; omega), List.length_append, hp, List.getElem?_drop]
      congr 1
      omega
def updT (F : Nat → VT) (i : Nat) (y : VT) : Nat → VT := fun k => if k = i then y else F k
theorem updT_same (F : Nat → VT) (i : Nat) (y : VT) : updT F i y i = y := if_pos rfl
theorem updT_ne (F : Nat → VT) {i k : Nat} (y : VT) (h : k ≠ i) : updT F i y k = F k := if_neg h
def pcK (key : ByteArray) (x : VT) : Array Value := #[.string key, .int .i64 x.k, .int .i64 x.n, .string x.s, x.L, x.M]
def boxC (t : VT) (A1 A2 : Option Addr) (c1 c2 : Nat) : Array Value := #[.int .i64 t.k, .int .i64 t.n, .string t.s, .slice A1 t.ln c1, .slice A2 t.mn c2]
structure CopF (w : World) (t : VT) (B : Nat) (A1 A2 : Option Addr) (g1 g2 c1 c2 : Nat) : Prop where
  l : 0 < t.ln → A1 = some ⟨g1, 0, none⟩ ∧ w.heap.size + 2 ≤ g1 ∧ g1 < B ∧ t.ln ≤ c1
  m : 0 < t.mn → A2 = some ⟨g2, 0, none⟩ ∧ w.heap.size + 2 ≤ g2 ∧ g2 < B ∧ t.mn ≤ c2
  lm : 0 < t.ln → 0 < t.mn → g1 ≠ g2
  b : w.heap.size + 2 ≤ B
structure CopI (w : World) (t : VT) (B : Nat) (A1 A2 : Option Addr) (g1 g2 c1 c2 : Nat) (F G : Nat → VT) (i j : Nat) (W : World) : Prop where
  below : Below w.heap.size w W
  box : W.heap[w.heap.size]? = some (.cells (boxC t A1 A2 c1 c2) 27 (0, 0))
  res : W.heap[w.heap.size + 1]? = some (.cells VT.no.c 27 (0, 0))
  hB : B ≤ W.heap.size
  rowL : 0 < t.ln → ∃ cur, W.heap[g1]? = some (.cells cur 27 (0, 0)) ∧ cur.size = c1 * 5 ∧ ∀ k, k < t.ln → ∀ (q : Nat) u, (if k < i then F k else t.lt k).c[q]? = some u → cur[k * 5 + q]? = some u
  rowM : 0 < t.mn → ∃ cur, W.heap[g2]? = some (.cells cur 34 (0, 0)) ∧ cur.size = c2 * 6 ∧ ∀ k, k < t.mn → ∀ (q : Nat) u, (pcK (t.key k) (if k < j then G k else t.mt k))[q]? = some u → cur[k * 6 + q]? = some u
  cL : ∀ k, k < i → Cop B (t.lt k) (F k) W
  cM : ∀ k, k < j → Cop B (t.mt k) (G k) W
  pL : ∀ k l, k < l → l < i → VT.Apart (F k) (F l)
  pM : ∀ k l, k < l → l < j → VT.Apart (G k) (G l)
  pX : ∀ k l, k < i → l < j → VT.Apart (F k) (G l)
theorem Cop.put {B g : Nat} {x y : VT} {W w' : World} (h : Cop B x y W) (hg : g < B) (ho : ∀ k, k ≠ g → w'.heap[k]? = W.heap[k]?) (hs : w'.heap.size = W.heap.size) : Cop B x y w' :=
  ⟨h.same, by rw [hs]; exact h.tin.but (h.at_.imp fun b hb => by omega) ho, h.at_, h.free.keep (h.at_.imp fun b hb => (by omega : b ≠ g)) (fun b hb => ho b hb)⟩
section
variable {w : World} {t : VT} {B : Nat} {A1 A2 : Option Addr} {g1 g2 c1 c2 : Nat} {F G : Nat → VT} {i j : Nat} {wr W w' : World}
theorem CopI.nextL (hF : CopF w t B A1 A2 g1 g2 c1 c2) (h : CopI w t B A1 A2 g1 g2 c1 c2 F G i j wr) (hi : i < t.ln) {y : VT} {cur : Array Value} (hr : wr.heap[g1]? = some (.cells cur 27 (0, 0)))
    (hb : Below wr.heap.size wr W) (hy : Cop wr.heap.size (t.lt i) y W) (hn : w'.heap[g1]? = some (.cells (cur.toList.take (i * 5) ++ y.c.toList ++ cur.toList.drop (i * 5 + y.c.size)).toArray 27 (0, 0))) (ho : ∀ k, k ≠ g1 → w'.heap[k]? = W.heap[k]?) (hb' : Below g1 W w') (hs : w'.heap.size = W.heap.size) :
    CopI w t B A1 A2 g1 g2 c1 c2 (updT F i y) G (i + 1) j w' := by
  obtain ⟨hA, hg, hgB, hc⟩ := hF.l (by omega)
  obtain ⟨cur', hr', hcs, hcu⟩ := h.rowL (by omega)
  rw [hr] at hr'
  obtain rfl : cur = cur' := by injection hr' with h1; injection h1
  have hB := h.hB
  have hsz := hb.size
  have hW : ∀ k, k < wr.heap.size → k ≠ g1 → w'.heap[k]? = wr.heap[k]? := fun k hk hk' => (ho k hk').trans (hb.block k hk)
  have hlen : i * 5 + y.c.toList.length ≤ cur.toList.length := by
    have : y.c.toList.length = 5 := rfl
    rw [this, Array.length_toList, hcs]
    omega
  refine ⟨h.below.trans ((hb.mono h.below.size).trans (hb'.mono (by omega))), (hW _ (by omega) (by omega)).trans h.box, (hW _ (by omega) (by omega)).trans h.res, by omega, fun _ => ⟨_, hn, ?_, ?_⟩, fun hm => ?_, fun k hk => ?_, fun k hk => ?_, fun k l hkl hl => ?_, h.pM, fun k l hk hl => ?_⟩
  · have := splice_len cur.toList y.c.toList (i * 5) hlen
    rw [← hcs]
    exact this
  · intro k hk q u hu
    have hq : q < 5 := (Array.getElem?_eq_some_iff.1 hu).1
    have := splice_get cur.toList y.c.toList (i * 5) (k * 5 + q) hlen
    have e5 : y.c.toList.length = 5 := rfl
    have hy5 : y.c.size = 5 := rfl
    rw [hy5, ← Array.getElem?_toList]
    rw [e5] at this
    refine this.trans ?_
    by_cases hki : k = i
    · subst hki
      rw [if_neg (by omega), if_pos (by omega), show k * 5 + q - k * 5 = q by omega]
      rw [if_pos (by omega), updT_same] at hu
      rw [Array.getElem?_toList]; exact hu
    · have h1 : cur.toList[k * 5 + q]? = some u := by
        rw [Array.getElem?_toList]
        refine hcu k hk q u ?_
        rw [updT_ne _ _ hki] at hu
        by_cases hlt : k < i
        · rw [if_pos (by omega)] at hu; rw [if_pos hlt]; exact hu
        · rw [if_neg (by omega)] at hu; rw [if_neg hlt]; exact hu
      by_cases hlt : k < i
      · rw [if_pos (by omega)]; exact h1
      · rw [if_neg (by omega), if_neg (by omega)]; exact h1
  · obtain ⟨cm, hr2, hcm, hcu2⟩ := h.rowM hm
    have := hF.lm (by omega) hm
    have := (hF.m hm).2.2.1
    exact ⟨cm, (hW _ (by omega) (by omega)).trans hr2, hcm, hcu2⟩
  · by_cases hki : k = i
    · subst hki
      rw [updT_same]
      exact (hy.low hB).put hgB ho hs
    · rw [updT_ne _ _ hki]
      exact ((h.cL k (by omega)).step hb).put hgB ho hs
  · exact ((h.cM k hk).step hb).put hgB ho hs
  · by_cases hli : l = i
    · subst hli
      rw [updT_same, updT_ne _ _ (by omega)]
      exact VT.apart_at (h.cL k hkl).tin.at_ hy.at_
    · rw [updT_ne _ _ hli, updT_ne _ _ (by omega)]
      exact h.pL k l hkl (by omega)
  · by_cases hki : k = i
    · subst hki
      rw [updT_same]
      exact (VT.apart_at (h.cM l hl).tin.at_ hy.at_).symm
    · rw [updT_ne _ _ hki]
      exact h.pX k l (by omega) hl
theorem CopI.nextM (hF : CopF w t B A1 A2 g1 g2 c1 c2) (h : CopI w t B A1 A2 g1 g2 c1 c2 F G i j wr) (hj : j < t.mn) {y : VT} {cur : Array Value} (hr : wr.heap[g2]? = some (.cells cur 34 (0, 0)))
    (hb : Below wr.heap.size wr W) (hy : Cop wr.heap.size (t.mt j) y W) (hn : w'.heap[g2]? = some (.cells (cur.toList.take (j * 6 + 1) ++ y.c.toList ++ cur.toList.drop (j * 6 + 1 + y.c.size)).toArray 34 (0, 0))) (ho : ∀ k, k ≠ g2 → w'.heap[k]? = W.heap[k]?) (hb' : Below g2 W w') (hs : w'.heap.size = W.heap.size) :
    CopI w t B A1 A2 g1 g2 c1 c2 F (updT G j y) i (j + 1) w' := by
  obtain ⟨hA, hg, hgB, hc⟩ := hF.m (by omega)
  obtain ⟨cur', hr', hcs, hcu⟩ := h.rowM (by omega)
  rw [hr] at hr'
  obtain rfl : cur = cur' := by injection hr' with h1; injection h1
  have hB := h.hB
  have hsz := hb.size
  have hW : ∀ k, k < wr.heap.size → k ≠ g2 → w'.heap[k]? = wr.heap[k]? := fun k hk hk' => (ho k hk').trans (hb.block k hk)
  have hlen : j * 6 + 1 + y.c.toList.length ≤ cur.toList.length := by
    have : y.c.toList.length = 5 := rfl
    rw [this, Array.length_toList, hcs]
    omega
  refine ⟨h.below.trans ((hb.mono h.below.size).trans (hb'.mono (by omega))), (hW _ (by omega) (by omega)).trans h.box, (hW _ (by omega) (by omega)).trans h.res, by omega, fun hl => ?_, fun _ => ⟨_, hn, ?_, ?_⟩, fun k hk => ?_, fun k hk => ?_, h.pL, fun k l hkl hl => ?_, fun k l hk hl => ?_⟩
  · obtain ⟨cm, hr2, hcm, hcu2⟩ := h.rowL hl
    have := hF.lm hl (by omega)
    have := (hF.l hl).2.2.1
    exact ⟨cm, (hW _ (by omega) (by omega)).trans hr2, hcm, hcu2⟩
  · have := splice_len cur.toList y.c.toList (j * 6 + 1) hlen
    rw [← hcs]
    exact this
  · intro k hk q u hu
    have hq : q < 6 := (Array.getElem?_eq_some_iff.1 hu).1
    have := splice_get cur.toList y.c.toList (j * 6 + 1) (k * 6 + q) hlen
    have e5 : y.c.toList.length = 5 := rfl
    have hy5 : y.c.size = 5 := rfl
    rw [hy5, ← Array.getElem?_toList]
    rw [e5] at this
    refine this.trans ?_
    by_cases hki : k = j
    · subst hki
      rw [if_pos (by omega), updT_same] at hu
      by_cases hq0 : q = 0
      · subst hq0
        rw [if_pos (by omega)]
        rw [Array.getElem?_toList]
        refine hcu k hk 0 u ?_
        exact hu
      · obtain ⟨q', rfl⟩ : ∃ q', q = q' + 1 := ⟨q - 1, by omega⟩
        rw [if_neg (by omega), if_pos (by omega), show k * 6 + (q' + 1) - (k * 6 + 1) = q' by omega, ← hu]
        simp [pcK, VT.c]
    · have h1 : cur.toList[k * 6 + q]? = some u := by
        rw [Array.getElem?_toList]
        refine hcu k hk q u ?_
        rw [updT_ne _ _ hki] at hu
        by_cases hlt : k < j
        · rw [if_pos (by omega)] at hu; rw [if_pos hlt]; exact hu
        · rw [if_neg (by omega)] at hu; rw [if_neg hlt]; exact hu
      by_cases hlt : k < j
      · rw [if_pos (by omega)]; exact h1
      · rw [if_neg (by omega), if_neg (by omega)]; exact h1
  · exact ((h.cL k hk).step hb).put hgB ho hs
  · by_cases hki : k = j
    · subst hki
      rw [updT_same]
      exact (hy.low hB).put hgB ho hs
    · rw [updT_ne _ _ hki]
      exact ((h.cM k (by omega)).step hb).put hgB ho hs
  · by_cases hlj : l = j
    · subst hlj
      rw [updT_same, updT_ne _ _ (by omega)]
      exact VT.apart_at (h.cM k hkl).tin.at_ hy.at_
    · rw [updT_ne _ _ hlj, updT_ne _ _ (by omega)]
      exact h.pM k l hkl (by omega)
  · by_cases hlj : l = j
    · subst hlj
      rw [updT_same]
      exact VT.apart_at (h.cL k hk).tin.at_ hy.at_
    · rw [updT_ne _ _ hlj]
      exact h.pX k l hk (by omega)
def outT (t : VT) (A1 A2 : Option Addr) (g1 g2 c1 c2 : Nat) (F G : Nat → VT) : VT := .mk t.k t.n t.s A1 g1 0 t.ln c1 F A2 g2 0 t.mn c2 t.key G
theorem CopI.end_ (hF : CopF w t B A1 A2 g1 g2 c1 c2) (ht : VT.Here w.heap.size w t) (h : CopI w t B A1 A2 g1 g2 c1 c2 F G t.ln t.mn W) (ho : ∀ k, k ≠ w.heap.size + 1 → w'.heap[k]? = W.heap[k]?) (hs : w'.heap.size = W.heap.size) :
    Cop w.heap.size t (outT t A1 A2 g1 g2 c1 c2 F G) w' := by
  have hb := hF.b
  have hat : VT.At (fun b => w.heap.size + 2 ≤ b) (outT t A1 A2 g1 g2 c1 c2 F G) := .mk (fun hn => (hF.l hn).2.1) (fun hn => (hF.m hn).2.1) (fun k hk => (h.cL k hk).at_.imp fun b hb' => by omega) (fun k hk => (h.cM k hk).at_.imp fun b hb' => by omega)
  have hfr : VT.Free W (outT t A1 A2 g1 g2 c1 c2 F G) := by
    refine .mk (fun hn => ?_) (fun hn => ?_) hF.lm (fun k hk => (h.cL k hk).free) (fun k hk => (h.cM k hk).free) h.pL h.pM h.pX (fun k hk => (h.cL k hk).at_.imp fun b hb' => ⟨fun hn => ?_, fun hn => ?_⟩) (fun k hk => (h.cM k hk).at_.imp fun b hb' => ⟨fun hn => ?_, fun hn => ?_⟩)
    · obtain ⟨cur, hr, _⟩ := h.rowL hn
      exact ⟨cur, hr⟩
    · obtain ⟨cur, hr, _⟩ := h.rowM hn
      exact ⟨cur, hr⟩
    · have := (hF.l hn).2.2.1; show b ≠ g1; omega
    · have := (hF.m hn).2.2.1; show b ≠ g2; omega
    · have := (hF.l hn).2.2.1; show b ≠ g1; omega
    · have := (hF.m hn).2.2.1; show b ≠ g2; omega
  refine ⟨?_, ?_, hat.imp fun b hb => by omega, hfr.keep (hat.imp fun b hb => (by omega : b ≠ w.heap.size + 1)) (fun b hb => ho b hb)⟩
  · rw [sameV_iff]
    exact ⟨rfl, rfl, rfl, rfl, rfl, fun k hk => (h.cL k hk).same, fun k hk => ⟨rfl, (h.cM k hk).same⟩⟩
  · rw [hs]
    refine VT.In.but (w := W) ?_ (hat.imp fun b hb => by omega) ho
    refine .mk ⟨ht.n0, ht.n1, ht.k0, ht.k1, ht.sl, ht.ll, ht.ml, fun hn => ⟨(hF.l hn).1, ?_⟩, fun hn => ⟨(hF.m hn).1, ?_⟩, ?_, ?_, ht.kl⟩ (fun k hk => (h.cL k hk).tin) (fun k hk => (h.cM k hk).tin)
    · exact Nat.lt_of_lt_of_le (hF.l hn).2.2.1 h.hB
    · exact Nat.lt_of_lt_of_le (hF.m hn).2.2.1 h.hB
    · intro k hk q u hu
      have hk' : k < t.ln := hk
      obtain ⟨cur, hr, _, hcu⟩ := h.rowL (by omega)
      refine (cell_of_row _ _ _ _ _ _ hr).trans ?_
      have := hcu k hk' q u (by rw [if_pos hk']; exact hu)
      show cur[0 + k * 5 + q]? = some u
      rw [show (0 : Nat) + k * 5 + q = k * 5 + q by omega]
      exact this
    · intro k hk q u hu
      have hk' : k < t.mn := hk
      obtain ⟨cur, hr, _, hcu⟩ := h.rowM (by omega)
      refine (cell_of_row _ _ _ _ _ _ hr).trans ?_
      have := hcu k hk' q u (by rw [if_pos hk']; exact hu)
      show cur[0 + k * 6 + q]? = some u
      rw [show (0 : Nat) + k * 6 + q = k * 6 + q by omega]
      exact this
end
end Go.Proofs.YtcpmehppfccihaaGreatDoor
