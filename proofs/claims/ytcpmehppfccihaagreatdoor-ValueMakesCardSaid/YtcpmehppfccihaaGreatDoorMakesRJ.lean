/-
  ValueMakes: a row of strings that came in; its three regions whose order is open. No condition.
-/
import Derived.Test.YtcpmehppfccihaaGreatDoorRWithJ
import Derived.Test.YtcpmehppfccihaaGreatDoorJ16
import Derived.Test.YtcpmehppfccihaaGreatDoorJ25
import Derived.SliceStrings
namespace Go.Proofs.YtcpmehppfccihaaGreatDoor
open Go.RowKit
set_option linter.unusedVariables false
set_option linter.unusedSimpArgs false
/-- A row of strings. -/
structure KIn (B : Nat) (w : World) (A : Option Addr) (kb ko : Nat) (K : List ByteArray) : Prop where
  a : 0 < K.length → A = some ⟨kb, ko, none⟩ ∧ kb < B
  c : ∀ i, i < K.length → w.cell? ⟨kb, ko + i, none⟩ = some (.string (kAt K i))
  s : AllSz K
theorem KIn.move {B : Nat} {w w' : World} {A : Option Addr} {kb ko : Nat} {K : List ByteArray} (h : KIn B w A kb ko K) (hb : Below B w w') : KIn B w' A kb ko K :=
  ⟨h.a, fun i hi => (hb.cell (p := ⟨kb, ko + i, none⟩) (h.a (by omega)).2).trans (h.c i hi), h.s⟩
theorem KIn.up {B B' : Nat} {w : World} {A : Option Addr} {kb ko : Nat} {K : List ByteArray} (h : KIn B w A kb ko K) (hb : B ≤ B') : KIn B' w A kb ko K := ⟨fun h0 => ⟨(h.a h0).1, Nat.lt_of_lt_of_le (h.a h0).2 hb⟩, h.c, h.s⟩
theorem info1 : (Tryz.prog.info? 9).map (·.size) = some 1 := by kernel_rfl
theorem KIn.ix {B : Nat} {w : World} {A : Option Addr} {kb ko : Nat} {K : List ByteArray} (h : KIn B w A kb ko K) {i : Nat} (hi : i < K.length) (c : Nat) (W : World) : (Instr.indexAt 39 (.slice A K.length c) (.int .i64 (i : Int))).run Tryz.prog W = .ok (.pointer (some ⟨kb, ko + i, none⟩)) W := by
  have := run_index_row (P := Tryz.prog) 39 9 Tryz.underlying39 1 info1 (h.a (by omega)).1 hi c W
  rwa [Nat.mul_one] at this
noncomputable def mk30 : Array Oper := regOf Tryz.f4 30
noncomputable def mk33 : Array Oper := regOf Tryz.f4 33
noncomputable def mk34 : Array Oper := regOf Tryz.f4 34
theorem build_2 (n : Int) (W : World) : (Instr.build 27 #[(0, .int .i64 2), (1, .int .i64 n)]).run Tryz.prog W = .ok (.agg (VT.leaf 2 n ⟨#[]⟩).c) W := by kernel_rfl
def val30 (A : Option Addr) (kb ko c i : Nat) (K : List ByteArray) (t : VT) : Nat → Value := fun k => [.agg t.c, .slice A K.length c, .int .i64 (i : Int), .pointer (some ⟨kb, ko + i, none⟩), .string (kAt K i), .tuple #[.agg (VT.c (getV t (kAt K i)).1), .bool (getV t (kAt K i)).2], .tuple #[.agg (VT.c (getV t (kAt K i)).1), .bool (getV t (kAt K i)).2], .agg (VT.c (getV t (kAt K i)).1), .bool (getV t (kAt K i)).2].getD k undef
set_option maxRecDepth 100000 in
set_option maxHeartbeats 1000000 in
theorem regMk30 {ops : Array Oper} (hops : ops = mk30) {Q : Exit → Act → World → Prop} {a0 : Act} {wr : World} {b17 kb ko c i : Nat} {A : Option Addr} {K : List ByteArray} {t : VT} (hz : 198 ≤ a0.tmps.size)
    (h17 : a0.eval (.tmp 17) = .pointer (some ⟨b17, 0, none⟩)) (h1 : a0.eval (.tmp 1) = .slice A K.length c) (h19 : a0.eval (.tmp 19) = .int .i64 (i : Int)) (hi : i < K.length)
    (hbox : wr.heap[b17]? = some (.cells t.c 27 (0, 0))) (hK : KIn wr.heap.size wr A kb ko K) (ht : VT.In wr.heap.size wr t)
    (hend : ∀ θ W, θ 8 = .bool (getV t (kAt K i)).2 → Below wr.heap.size wr W → wpList Tryz.prog ops Q (ops.toList.drop 11) (seqTo ops θ a0 11) W) :
    (Code.region 30 ops true).wp Tryz.prog Q a0 wr := by
  subst hops
  have hl : b17 < wr.heap.size := (Array.getElem?_eq_some_iff.1 hbox).1
  have hsz : ∀ t, t < 198 → decide (t < a0.tmps.size) = true := fun t ht => decide_eq_true (by omega)
  refine wp_region_env 11 (by kernel_rfl) (by kernel_rfl) (by kernel_rfl) (of_decide_eq_true (by kernel_rfl)) (by kernel_rfl) (BoxC wr [] (val30 A kb ko c i K t) 9 9 10 27 VT.no.c (VT.c (getV t (kAt K i)).1)) ⟨fun _ => undef, ⟨(fun j _ h => by cases h), ⟨(Below.refl _ _).drew, (fun p hp => by cases hp)⟩, (fun h => by cases h)⟩⟩ ?_ ?_
  · intro k o hk ho θ L W hC hLk hdep hlat
    have hT := hC.1
    have hB := hC.2.1.below
    have hbx := (hB.block b17 hl).trans hbox
    have hKW := hK.move hB
    rcases (show k = 0 ∨ k = 1 ∨ k = 2 ∨ k = 3 ∨ k = 4 ∨ k = 5 ∨ k = 6 ∨ k = 7 ∨ k = 8 ∨ k = 9 ∨ k = 10 by omega) with rfl | rfl | rfl | rfl | rfl | rfl | rfl | rfl | rfl | rfl | rfl
    · exact if_want (want_of ho (by kernel_rfl) _) (gives_load_row 27 (.tmp 17) (op_of ho (by kernel_rfl)) b17 (seq_old (by kernel_rfl) h17) _ t.c (0, 0) _ hbx Tryz.underlying27 rfl (VT.val_info _) (hC.keep (by decide) (by decide) (fun _ => rfl) (Below.refl _ _)))
    · exact if_want (want_of ho (by kernel_rfl) _) (gives_move (.tmp 1) (op_of ho (by kernel_rfl)) (seq_old (by kernel_rfl) h1) (hC.keep (by decide) (by decide) (fun _ => rfl) (Below.refl _ _)))
    · exact if_want (want_of ho (by kernel_rfl) _) (gives_move (.tmp 19) (op_of ho (by kernel_rfl)) (seq_old (by kernel_rfl) h19) (hC.keep (by decide) (by decide) (fun _ => rfl) (Below.refl _ _)))
    · have e1 : θ 1 = .slice A K.length c := hT 1 (by decide) (hdep 1 (by kernel_rfl))
      have e2 : θ 2 = .int .i64 (i : Int) := hT 2 (by decide) (hdep 2 (by kernel_rfl))
      exact if_want (want_of ho (by kernel_rfl) _) (gives_index_row 39 (.tmp 129) (.tmp 130) (op_of ho (by kernel_rfl)) (seq_at (by kernel_rfl) (hsz _ (by decide)) e1) (seq_at (by kernel_rfl) (hsz _ (by decide)) e2) (hK.ix hi c) (hC.keep (by decide) (by decide) (fun _ => rfl) (Below.refl _ _)))
    · have e3 : θ 3 = .pointer (some ⟨kb, ko + i, none⟩) := hT 3 (by decide) (hdep 3 (by kernel_rfl))
      exact if_want (want_of ho (by kernel_rfl) _) (gives_load_cellw 9 (.tmp 131) (op_of ho (by kernel_rfl)) kb (ko + i) (seq_at (by kernel_rfl) (hsz _ (by decide)) e3) (.string (kAt K i)) _ (hKW.c i hi) Tryz.underlying9 rfl (hC.keep (by decide) (by decide) (fun _ => rfl) (Below.refl _ _)))
    · have e0 : θ 0 = .agg t.c := hT 0 (by decide) (hdep 0 (by kernel_rfl))
      have e4 : θ 4 = .string (kAt K i) := hT 4 (by decide) (hdep 4 (by kernel_rfl))
      exact if_want (want_of ho (by kernel_rfl) _) (gives_callf #[.tmp 128, .tmp 132] #[27, 9] (op_of ho (by kernel_rfl)) (f := 23) Tryz.func23 (by kernel_rfl) rfl #[.agg t.c, .string (kAt K i)] (two_args (seq_at (by kernel_rfl) (hsz _ (by decide)) e0) (seq_at (by kernel_rfl) (hsz _ (by decide)) e4)) (rget_any t (kAt K i) W ((ht.move hB).up hB.size)) (fun W' hb => hC.keep (by decide) (by decide) (fun _ => rfl) hb))
    · have e5 : θ 5 = .tuple #[.agg (VT.c (getV t (kAt K i)).1), .bool (getV t (kAt K i)).2] := hT 5 (by decide) (hdep 5 (by kernel_rfl))
      exact if_want (want_of ho (by kernel_rfl) _) (gives_move (.tmp 133) (op_of ho (by kernel_rfl)) (seq_at (by kernel_rfl) (hsz _ (by decide)) e5) (hC.keep (by decide) (by decide) (fun _ => rfl) (Below.refl _ _)))
    · have e6 : θ 6 = .tuple #[.agg (VT.c (getV t (kAt K i)).1), .bool (getV t (kAt K i)).2] := hT 6 (by decide) (hdep 6 (by kernel_rfl))
      exact if_want (want_of ho (by kernel_rfl) _) (gives_extract (.tmp 127) 0 (op_of ho (by kernel_rfl)) _ _ (seq_at (by kernel_rfl) (hsz _ (by decide)) e6) rfl (hC.keep (by decide) (by decide) (fun _ => rfl) (Below.refl _ _)))
    · have e6 : θ 6 = .tuple #[.agg (VT.c (getV t (kAt K i)).1), .bool (getV t (kAt K i)).2] := hT 6 (by decide) (hdep 6 (by kernel_rfl))
      exact if_want (want_of ho (by kernel_rfl) _) (gives_extract (.tmp 127) 1 (op_of ho (by kernel_rfl)) _ _ (seq_at (by kernel_rfl) (hsz _ (by decide)) e6) rfl (hC.keep (by decide) (by decide) (fun _ => rfl) (Below.refl _ _)))
    · have hls : L 10 = false := hlat 10 (by kernel_rfl)
      exact if_want (want_of ho (by kernel_rfl) _) (gives_alloc 27 (op_of ho (by kernel_rfl)) (.agg VT.no.c) (by kernel_rfl) (hC.alloc hls (by decide) (by decide)))
    · have e7 : θ 7 = .agg (VT.c (getV t (kAt K i)).1) := hT 7 (by decide) (hdep 7 (by kernel_rfl))
      obtain ⟨b, e9, hr, hst⟩ := hC.row (hdep 9 (by kernel_rfl)) hLk
      exact if_want (want_of ho (by kernel_rfl) _) (gives_store_row 27 (.tmp 20) (.tmp 134) (op_of ho (by kernel_rfl)) b (VT.c (getV t (kAt K i)).1) (seq_at (by kernel_rfl) (hsz _ (by decide)) e9) (seq_at (by kernel_rfl) (hsz _ (by decide)) e7) 27 _ hr (VT.val_info _) rfl (VT.c_one _) (fun v w' hg ho hb => hst w' v (by decide) (by decide) hg ho hb))
  · intro θ L W hC hL
    exact hend θ W (hC.1 8 (by decide) (by rw [hL]; rfl)) hC.2.1.below
def S34 (B kb ko i : Nat) (A : Option Addr) (c : Nat) (K : List ByteArray) (n : Int) (sM : Value) (k : Nat) (v : Value) (W : World) : Prop := match k with
  | 0 => v = sM
  | 1 => v = .slice A K.length c
  | 2 => v = .int .i64 (i : Int)
  | 3 => v = .pointer (some ⟨kb, ko + i, none⟩)
  | 4 => v = .string (kAt K i)
  | 5 => v = .int .i64 n
  | 6 => v = .agg (VT.leaf 2 n ⟨#[]⟩).c
  | 7 => v = .agg (pcK (kAt K i) (VT.leaf 2 n ⟨#[]⟩))
  | 8 => ∃ b, v = .slice (some ⟨b, 0, none⟩) 1 1 ∧ W.heap[b]? = some (.cells (pcK (kAt K i) (VT.leaf 2 n ⟨#[]⟩)) 34 (0, 0))
  | _ => True
theorem S34_stab (w0 : World) (B kb ko i : Nat) (A : Option Addr) (c : Nat) (K : List ByteArray) (n : Int) (sM : Value) : Stab w0 (S34 B kb ko i A c K n sM) := by
  intro k v W W' hb h h'
  match k, h with
  | 0, h => exact h
  | 1, h => exact h
  | 2, h => exact h
  | 3, h => exact h
  | 4, h => exact h
  | 5, h => exact h
  | 6, h => exact h
  | 7, h => exact h
  | 8, ⟨b, e, hr⟩ => exact ⟨b, e, (h'.block b (Array.getElem?_eq_some_iff.1 hr).1).trans hr⟩
  | n + 9, h => exact trivial
set_option maxRecDepth 100000 in
set_option maxHeartbeats 1000000 in
theorem regMk34 {ops : Array Oper} (hops : ops = mk34) {Q : Exit → Act → World → Prop} {a0 : Act} {wr : World} {kb ko c i : Nat} {A : Option Addr} {K : List ByteArray} {n : Int} {sM : Value} (hz : 198 ≤ a0.tmps.size)
    (h16 : a0.eval (.tmp 16) = sM) (h1 : a0.eval (.tmp 1) = .slice A K.length c) (h2 : a0.eval (.tmp 2) = .int .i64 n) (h19 : a0.eval (.tmp 19) = .int .i64 (i : Int)) (hi : i < K.length) (hK : KIn wr.heap.size wr A kb ko K)
    (hend : ∀ θ W (b : Nat), θ 0 = sM → θ 8 = .slice (some ⟨b, 0, none⟩) 1 1 → W.heap[b]? = some (.cells (pcK (kAt K i) (VT.leaf 2 n ⟨#[]⟩)) 34 (0, 0)) → Below wr.heap.size wr W → wpList Tryz.prog ops Q (ops.toList.drop 9) (seqTo ops θ a0 9) W) :
    (Code.region 34 ops true).wp Tryz.prog Q a0 wr := by
  subst hops
  have hsz : ∀ t, t < 198 → decide (t < a0.tmps.size) = true := fun t ht => decide_eq_true (by omega)
  have hst := S34_stab wr wr.heap.size kb ko i A c K n sM
  refine wp_region_env 9 (by kernel_rfl) (by kernel_rfl) (by kernel_rfl) (of_decide_eq_true (by kernel_rfl)) (by kernel_rfl) (EnvC wr 9 (S34 wr.heap.size kb ko i A c K n sM)) EnvC.start ?_ ?_
  · intro k o hk ho θ L W hC hLk hdep hlat
    have hB := hC.1
    have hKW := hK.move hB
    rcases (show k = 0 ∨ k = 1 ∨ k = 2 ∨ k = 3 ∨ k = 4 ∨ k = 5 ∨ k = 6 ∨ k = 7 ∨ k = 8 by omega) with rfl | rfl | rfl | rfl | rfl | rfl | rfl | rfl | rfl
    · exact if_want (want_of ho (by kernel_rfl) _) (gives_move (.tmp 16) (op_of ho (by kernel_rfl)) (seq_old (by kernel_rfl) h16) (hC.keep hst rfl))
    · exact if_want (want_of ho (by kernel_rfl) _) (gives_move (.tmp 1) (op_of ho (by kernel_rfl)) (seq_old (by kernel_rfl) h1) (hC.keep hst rfl))
    · exact if_want (want_of ho (by kernel_rfl) _) (gives_move (.tmp 19) (op_of ho (by kernel_rfl)) (seq_old (by kernel_rfl) h19) (hC.keep hst rfl))
    · have e1 : θ 1 = .slice A K.length c := hC.2 1 (by decide) (hdep 1 (by kernel_rfl))
      have e2 : θ 2 = .int .i64 (i : Int) := hC.2 2 (by decide) (hdep 2 (by kernel_rfl))
      exact if_want (want_of ho (by kernel_rfl) _) (gives_index_row 39 (.tmp 146) (.tmp 147) (op_of ho (by kernel_rfl)) (seq_at (by kernel_rfl) (hsz _ (by decide)) e1) (seq_at (by kernel_rfl) (hsz _ (by decide)) e2) (hK.ix hi c) (hC.keep hst rfl))
    · have e3 : θ 3 = .pointer (some ⟨kb, ko + i, none⟩) := hC.2 3 (by decide) (hdep 3 (by kernel_rfl))
      exact if_want (want_of ho (by kernel_rfl) _) (gives_load_cellw 9 (.tmp 148) (op_of ho (by kernel_rfl)) kb (ko + i) (seq_at (by kernel_rfl) (hsz _ (by decide)) e3) (.string (kAt K i)) _ (hKW.c i hi) Tryz.underlying9 rfl (hC.keep hst rfl))
    · exact if_want (want_of ho (by kernel_rfl) _) (gives_move (.tmp 2) (op_of ho (by kernel_rfl)) (seq_old (by kernel_rfl) h2) (hC.keep hst rfl))
    · have e5 : θ 5 = .int .i64 n := hC.2 5 (by decide) (hdep 5 (by kernel_rfl))
      exact if_want (want_of ho (by kernel_rfl) _) (gives_callf #[.tmp 150] #[2] (op_of ho (by kernel_rfl)) (f := 25) Tryz.func25 (by kernel_rfl) rfl #[.int .i64 n] (one_arg (seq_at (by kernel_rfl) (hsz _ (by decide)) e5)) (vInt_any n W) (fun W' hb => hC.put hst hb rfl))
    · have e4 : θ 4 = .string (kAt K i) := hC.2 4 (by decide) (hdep 4 (by kernel_rfl))
      have e6 : θ 6 = .agg (VT.leaf 2 n ⟨#[]⟩).c := hC.2 6 (by decide) (hdep 6 (by kernel_rfl))
      refine if_want (want_of ho (by kernel_rfl) _) (gives_build 34 #[(0, .tmp 149), (1, .tmp 151)] (op_of ho (by kernel_rfl)) #[(0, .string (kAt K i)), (1, .agg (VT.leaf 2 n ⟨#[]⟩).c)] ?_ _ (build_p (kAt K i) (VT.leaf 2 n ⟨#[]⟩)) (hC.keep hst rfl))
      simp only [List.map_toArray, List.map_cons, List.map_nil, seq_at (ops := mk34) (θ := θ) (a0 := a0) (n := 7) (t := 149) (j := 4) (by kernel_rfl) (hsz _ (by decide)) e4, seq_at (ops := mk34) (θ := θ) (a0 := a0) (n := 7) (t := 151) (j := 6) (by kernel_rfl) (hsz _ (by decide)) e6]
    · have e7 : θ 7 = .agg (pcK (kAt K i) (VT.leaf 2 n ⟨#[]⟩)) := hC.2 7 (by decide) (hdep 7 (by kernel_rfl))
      have hal := Below.alloc (Below.refl W.heap.size W) (Nat.le_refl _) (Obj.cells (pcK (kAt K i) (VT.leaf 2 n ⟨#[]⟩)) 34)
      refine if_want (want_of ho (by kernel_rfl) _) (gives_slice 25 1 #[(0, .tmp 152)] (op_of ho (by kernel_rfl)) #[(0, .agg (pcK (kAt K i) (VT.leaf 2 n ⟨#[]⟩)))] ?_ _ _ (slice_p1 (kAt K i) (VT.leaf 2 n ⟨#[]⟩) W) (hC.put hst hal ⟨W.heap.size, rfl, heap_alloc_new _ _⟩))
      simp only [List.map_toArray, List.map_cons, List.map_nil, seq_at (ops := mk34) (θ := θ) (a0 := a0) (n := 8) (t := 152) (j := 7) (by kernel_rfl) (hsz _ (by decide)) e7]
  · intro θ L W hC hL
    obtain ⟨b, e8, hr⟩ := hC.2 8 (by decide) (by rw [hL]; rfl)
    exact hend θ W b (hC.2 0 (by decide) (by rw [hL]; rfl)) e8 hr hC.1
def S33 (kb ko i : Nat) (A : Option Addr) (c : Nat) (K : List ByteArray) (n : Int) (t : VT) (k : Nat) (v : Value) (W : World) : Prop := match k with
  | 0 => v = .agg t.c
  | 1 => v = .slice A K.length c
  | 2 => v = .int .i64 (i : Int)
  | 3 => v = .pointer (some ⟨kb, ko + i, none⟩)
  | 4 => v = .string (kAt K i)
  | 5 => v = .int .i64 n
  | 6 => v = .agg (VT.leaf 2 n ⟨#[]⟩).c
  | _ => True
theorem S33_stab (w0 : World) (kb ko i : Nat) (A : Option Addr) (c : Nat) (K : List ByteArray) (n : Int) (t : VT) : Stab w0 (S33 kb ko i A c K n t) := by
  intro k v W W' hb h h'
  match k, h with
  | 0, h => exact h
  | 1, h => exact h
  | 2, h => exact h
  | 3, h => exact h
  | 4, h => exact h
  | 5, h => exact h
  | 6, h => exact h
  | n + 7, h => exact trivial
set_option maxRecDepth 100000 in
set_option maxHeartbeats 1000000 in
theorem regMk33 {ops : Array Oper} (hops : ops = mk33) {Q : Exit → Act → World → Prop} {a0 : Act} {wr : World} {b17 kb ko c i : Nat} {A : Option Addr} {K : List ByteArray} {n : Int} {t : VT} (hz : 198 ≤ a0.tmps.size)
    (h17 : a0.eval (.tmp 17) = .pointer (some ⟨b17, 0, none⟩)) (h1 : a0.eval (.tmp 1) = .slice A K.length c) (h2 : a0.eval (.tmp 2) = .int .i64 n) (h19 : a0.eval (.tmp 19) = .int .i64 (i : Int)) (hi : i < K.length)
    (hbox : wr.heap[b17]? = some (.cells t.c 27 (0, 0))) (hK : KIn wr.heap.size wr A kb ko K)
    (hend : ∀ θ W, θ 0 = .agg t.c → θ 4 = .string (kAt K i) → θ 6 = .agg (VT.leaf 2 n ⟨#[]⟩).c → Below wr.heap.size wr W → wpList Tryz.prog ops Q (ops.toList.drop 7) (seqTo ops θ a0 7) W) :
    (Code.region 33 ops true).wp Tryz.prog Q a0 wr := by
  subst hops
  have hl : b17 < wr.heap.size := (Array.getElem?_eq_some_iff.1 hbox).1
  have hsz : ∀ t, t < 198 → decide (t < a0.tmps.size) = true := fun t ht => decide_eq_true (by omega)
  have hst := S33_stab wr kb ko i A c K n t
  refine wp_region_env 7 (by kernel_rfl) (by kernel_rfl) (by kernel_rfl) (of_decide_eq_true (by kernel_rfl)) (by kernel_rfl) (EnvC wr 7 (S33 kb ko i A c K n t)) EnvC.start ?_ ?_
  · intro k o hk ho θ L W hC hLk hdep hlat
    have hB := hC.1
    have hbx := (hB.block b17 hl).trans hbox
    have hKW := hK.move hB
    rcases (show k = 0 ∨ k = 1 ∨ k = 2 ∨ k = 3 ∨ k = 4 ∨ k = 5 ∨ k = 6 by omega) with rfl | rfl | rfl | rfl | rfl | rfl | rfl
    · exact if_want (want_of ho (by kernel_rfl) _) (gives_load_row 27 (.tmp 17) (op_of ho (by kernel_rfl)) b17 (seq_old (by kernel_rfl) h17) _ t.c (0, 0) _ hbx Tryz.underlying27 rfl (VT.val_info _) (hC.keep hst rfl))
    · exact if_want (want_of ho (by kernel_rfl) _) (gives_move (.tmp 1) (op_of ho (by kernel_rfl)) (seq_old (by kernel_rfl) h1) (hC.keep hst rfl))
    · exact if_want (want_of ho (by kernel_rfl) _) (gives_move (.tmp 19) (op_of ho (by kernel_rfl)) (seq_old (by kernel_rfl) h19) (hC.keep hst rfl))
    · have e1 : θ 1 = .slice A K.length c := hC.2 1 (by decide) (hdep 1 (by kernel_rfl))
      have e2 : θ 2 = .int .i64 (i : Int) := hC.2 2 (by decide) (hdep 2 (by kernel_rfl))
      exact if_want (want_of ho (by kernel_rfl) _) (gives_index_row 39 (.tmp 138) (.tmp 139) (op_of ho (by kernel_rfl)) (seq_at (by kernel_rfl) (hsz _ (by decide)) e1) (seq_at (by kernel_rfl) (hsz _ (by decide)) e2) (hK.ix hi c) (hC.keep hst rfl))
    · have e3 : θ 3 = .pointer (some ⟨kb, ko + i, none⟩) := hC.2 3 (by decide) (hdep 3 (by kernel_rfl))
      exact if_want (want_of ho (by kernel_rfl) _) (gives_load_cellw 9 (.tmp 140) (op_of ho (by kernel_rfl)) kb (ko + i) (seq_at (by kernel_rfl) (hsz _ (by decide)) e3) (.string (kAt K i)) _ (hKW.c i hi) Tryz.underlying9 rfl (hC.keep hst rfl))
    · exact if_want (want_of ho (by kernel_rfl) _) (gives_move (.tmp 2) (op_of ho (by kernel_rfl)) (seq_old (by kernel_rfl) h2) (hC.keep hst rfl))
    · have e5 : θ 5 = .int .i64 n := hC.2 5 (by decide) (hdep 5 (by kernel_rfl))
      refine if_want (want_of ho (by kernel_rfl) _) (gives_build 27 #[(0, .const (.int .i64 2)), (1, .tmp 142)] (op_of ho (by kernel_rfl)) #[(0, .int .i64 2), (1, .int .i64 n)] ?_ _ (build_2 n) (hC.keep hst rfl))
      simp only [List.map_toArray, List.map_cons, List.map_nil, seq_at (ops := mk33) (θ := θ) (a0 := a0) (n := 6) (t := 142) (j := 5) (by kernel_rfl) (hsz _ (by decide)) e5]
      rfl
  · intro θ L W hC hL
    exact hend θ W (hC.2 0 (by decide) (by rw [hL]; rfl)) (hC.2 4 (by decide) (by rw [hL]; rfl)) (hC.2 6 (by decide) (by rw [hL]; rfl)) hC.1
end Go.Proofs.YtcpmehppfccihaaGreatDoor
