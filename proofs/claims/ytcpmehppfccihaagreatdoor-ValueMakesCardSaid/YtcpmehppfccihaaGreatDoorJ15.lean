/-
  dec.Cmp, walked. No condition.
  value.same where two texts differ and say the same: it goes on. Condition: what the function for numbers tells is known.
  value.Equal tells what is written here, for all trees. No condition.
-/
import Derived.Test.YtcpmehppfccihaaGreatDoorJ4
import Derived.Test.YtcpmehppfccihaaGreatDoorJ2
import Derived.Test.YtcpmehppfccihaaGreatDoorJ19
namespace Go.Proofs.YtcpmehppfccihaaGreatDoor
open Go.RowKit
set_option linter.unusedVariables false
set_option linter.unusedSimpArgs false
/-- Two numbers just read, each in a block of its own. -/
structure Two (w W : World) (g1 g2 : Nat) (o1 o2 : Obj) : Prop where
  below : Below w.heap.size w W
  r1 : W.heap[g1]? = some o1
  r2 : W.heap[g2]? = some o2
theorem Two.make {w w1 w2 : World} {o1 o2 : Obj} (h1 : Below w.heap.size w w1) (h2 : Below (w1.alloc o1).heap.size (w1.alloc o1) w2) : Two w (w2.alloc o2) w1.heap.size w2.heap.size o1 o2 := by
  have hs := h2.size
  have hlt : w1.heap.size < w2.heap.size := by simp at hs; omega
  refine ⟨(below_then (below_alloc h1 o1) (by have := h1.size; simp; omega) h2).alloc (by have := h1.size; omega) _, ?_, heap_alloc_new _ _⟩
  rw [Below.heap_alloc _ _ _ hlt]
  exact (h2.block w1.heap.size (by simp)).trans (heap_alloc_new _ _)
theorem Two.step {w W W' : World} {g1 g2 : Nat} {o1 o2 : Obj} (h : Two w W g1 g2 o1 o2) (hb : Below W.heap.size W W') : Two w W' g1 g2 o1 o2 :=
  ⟨below_then h.below h.below.size hb, (hb.block g1 (Array.getElem?_eq_some_iff.1 h.r1).1).trans h.r1, (hb.block g2 (Array.getElem?_eq_some_iff.1 h.r2).1).trans h.r2⟩
theorem signN_range (x : Num) : signN x = -1 ∨ signN x = 0 ∨ signN x = 1 := by
  unfold signN
  split
  · exact .inr (.inl rfl)
  · split
    · exact .inl rfl
    · exact .inr (.inr rfl)
theorem compareInt_range (a b : Int) : Lib.compareInt a b = -1 ∨ Lib.compareInt a b = 0 ∨ Lib.compareInt a b = 1 := by
  unfold Lib.compareInt; (repeat' split) <;> simp
theorem compareBytes_range (a b : List UInt8) : Lib.compareBytes a b = -1 ∨ Lib.compareBytes a b = 0 ∨ Lib.compareBytes a b = 1 := by
  induction a generalizing b with
  | nil => cases b <;> simp [Lib.compareBytes]
  | cons x a ih =>
    cases b with
    | nil => simp [Lib.compareBytes]
    | cons y b => unfold Lib.compareBytes; (repeat' split) <;> first | simp; done | exact ih b
theorem sizeN_range (x y : Num) : sizeN x y = -1 ∨ sizeN x y = 0 ∨ sizeN x y = 1 := by
  unfold sizeN; split
  · exact compareInt_range _ _
  · exact compareBytes_range _ _
theorem mul_range {a b : Int} (ha : a = -1 ∨ a = 0 ∨ a = 1) (hb : b = -1 ∨ b = 0 ∨ b = 1) : -9223372036854775808 ≤ a * b ∧ a * b ≤ 9223372036854775807 := by
  rcases ha with rfl | rfl | rfl <;> rcases hb with rfl | rfl | rfl <;> decide
set_option maxRecDepth 100000 in
set_option maxHeartbeats 1000000 in
theorem cmp_some (s t : ByteArray) (w : World) (b1 b2 : Bool) (T1 T2 : ByteArray) (p1 p2 : Int) (hp1 : parseV (parseN s.data.toList) = .tuple #[.agg #[.bool b1, .string T1, .int .i64 p1], .bool true]) (hp2 : parseV (parseN t.data.toList) = .tuple #[.agg #[.bool b2, .string T2, .int .i64 p2], .bool true]) :
    Calls Tryz.prog 49 #[.string s, .string t] w fun e w' => e = .returned (.int .i64 (cmpNum (b1, T1.data.toList, p1) (b2, T2.data.toList, p2))) ∧ Below w.heap.size w w' := by
  have HP1 := Lib.hid hp1
  have HP2 := Lib.hid hp2
  clear hp1 hp2
  obtain ⟨s1, hs1⟩ : ∃ s1, signN (b1, T1.data.toList, p1) = s1 := ⟨_, rfl⟩
  obtain ⟨s2, hs2⟩ : ∃ s2, signN (b2, T2.data.toList, p2) = s2 := ⟨_, rfl⟩
  obtain ⟨z, hz⟩ : ∃ z, sizeN (b1, T1.data.toList, p1) (b2, T2.data.toList, p2) = z := ⟨_, rfl⟩
  have hs1r := signN_range (b1, T1.data.toList, p1)
  have hzr := sizeN_range (b1, T1.data.toList, p1) (b2, T2.data.toList, p2)
  have c1 := fun V => sign_any b1 T1 p1 V
  have c2 := fun V => sign_any b2 T2 p2 V
  have c3 := fun V => size_any b1 b2 T1 T2 p1 p2 V
  unfold cmpNum
  rw [hs1] at c1 hs1r ⊢
  rw [hs2] at c2 ⊢
  rw [hz] at c3 hzr ⊢
  clear hs1 hs2 hz
  have hwr : IntKind.i64.wrap (s1 * z) = s1 * z := by rw [IntWalk.i64_left]; exact IntWalk.wrap64_in _ (mul_range hs1r hzr)
  have C1 := Lib.hid c1
  have C2 := Lib.hid c2
  have C3 := Lib.hid c3
  have Hwr := Lib.hid hwr
  clear c1 c2 c3 hwr hs1r hzr
  obtain ⟨V, hV⟩ : ∃ V, V = (if s1 ≠ s2 then Lib.compareInt s1 s2 else s1 * z) := ⟨_, rfl⟩
  rw [← hV]
  go_enter Tryz.func49, Tryz.ntmps49
  go_wp2_with (first | (go_at_call 59; refine (parse_any _ _).mono ?_; rintro e w1 ⟨rfl, hb1⟩; rw [HP1.out]; have hB1 := Lib.hid hb1; clear hb1) | (go_at_call 59; refine (parse_any _ _).mono ?_; rintro e w2 ⟨rfl, hb2⟩; rw [HP2.out]; have hB2 := Lib.hid hb2; clear hb2))
  have hT := Two.make (o2 := (.cells #[.bool b2, .string T2, .int .i64 p2] 81 (0, 0))) hB1.out hB2.out
  clear hB1 hB2 HP1 HP2
  generalize World.alloc w2 (.cells #[.bool b2, .string T2, .int .i64 p2] 81) = W at hT ⊢
  generalize Array.size (World.heap w1) = g1 at hT ⊢
  generalize Array.size (World.heap w2) = g2 at hT ⊢
  have e1 := grown_calls (w := W) (fun V _ => C1.out V)
  have e2 := grown_calls (w := W) (fun V _ => C2.out V)
  have r1 := hT.r1
  have r2 := hT.r2
  by_cases hss : s1 = s2
  · subst hss
    rw [if_neg (by simp)] at hV
    subst hV
    refine wp_region_quiet_below (by kernel_rfl) (by kernel_rfl) ?_
    repeat (first | (refine BigFrame.wpQuiet_want rfl (fun K hK => ?_); refine quiet_load_row 81 (.tmp 5) rfl _ rfl 81 _ (0, 0) _ (row_regrown r1) Tryz.underlying81 rfl num_info ?_; refine hK _ ?_; clear hK K) | (refine BigFrame.wpQuiet_want rfl (fun K hK => ?_); refine quiet_load_row 81 (.tmp 7) rfl _ rfl 81 _ (0, 0) _ (row_regrown r2) Tryz.underlying81 rfl num_info ?_; refine hK _ ?_; clear hK K) | (quiet_step (first | with_reducible exact e1 _ _ | with_reducible exact e2 _ _)))
    refine wpQuiet_nil ?_; rintro wq ⟨⟨dq, osq⟩, rfl⟩; have hbq := below_regrown W dq osq; generalize Go.Sort.grow (redrawn W dq) osq = wq at *
    have hT := hT.step hbq
    clear e1 e2 r1 r2 hbq
    go_wp2
    have e1 := grown_calls (w := wq) (fun V _ => C1.out V)
    have e3 := grown_calls (w := wq) (fun V _ => C3.out V)
    have r1 := hT.r1
    have r2 := hT.r2
    have hwr := Hwr.out
    refine wp_region_quiet_below (by kernel_rfl) (by kernel_rfl) ?_
    repeat (first | (refine BigFrame.wpQuiet_want rfl (fun K hK => ?_); refine quiet_load_row 81 (.tmp 5) rfl _ rfl 81 _ (0, 0) _ (row_regrown r1) Tryz.underlying81 rfl num_info ?_; refine hK _ ?_; clear hK K) | (refine BigFrame.wpQuiet_want rfl (fun K hK => ?_); refine quiet_load_row 81 (.tmp 7) rfl _ rfl 81 _ (0, 0) _ (row_regrown r2) Tryz.underlying81 rfl num_info ?_; refine hK _ ?_; clear hK K) | (quiet_step (first | with_reducible exact e1 _ _ | with_reducible exact e3 _ _)))
    refine wpQuiet_nil ?_; rintro wz ⟨⟨dq, osq⟩, rfl⟩; have hbq := below_regrown wq dq osq
    have hfin := Lib.hid (hT.step hbq).below
    clear e1 e3 r1 r2 hbq hwr hT
    go_wp2
    go_ret
    exact ⟨rfl, hfin.out⟩
  · rw [if_pos (by simpa using hss)] at hV
    subst hV
    refine wp_region_quiet_below (by kernel_rfl) (by kernel_rfl) ?_
    repeat (first | (refine BigFrame.wpQuiet_want rfl (fun K hK => ?_); refine quiet_load_row 81 (.tmp 5) rfl _ rfl 81 _ (0, 0) _ (row_regrown r1) Tryz.underlying81 rfl num_info ?_; refine hK _ ?_; clear hK K) | (refine BigFrame.wpQuiet_want rfl (fun K hK => ?_); refine quiet_load_row 81 (.tmp 7) rfl _ rfl 81 _ (0, 0) _ (row_regrown r2) Tryz.underlying81 rfl num_info ?_; refine hK _ ?_; clear hK K) | (quiet_step (first | with_reducible exact e1 _ _ | with_reducible exact e2 _ _)))
    refine wpQuiet_nil ?_; rintro wq ⟨⟨dq, osq⟩, rfl⟩; have hbq := below_regrown W dq osq; generalize Go.Sort.grow (redrawn W dq) osq = wq at *
    have hT := hT.step hbq
    clear e1 e2 r1 r2 hbq
    go_wp2
    have e1 := grown_calls (w := wq) (fun V _ => C1.out V)
    have e2 := grown_calls (w := wq) (fun V _ => C2.out V)
    have e3 := grown_calls (w := wq) (fun V _ => (Tryz.cmp_Compare_int s1 s2 V).mono fun e w' ⟨he, hw⟩ => ⟨he, by rw [hw]; exact Below.refl _ _⟩)
    have r1 := hT.r1
    have r2 := hT.r2
    refine wp_region_quiet_below (by kernel_rfl) (by kernel_rfl) ?_
    repeat (first | (refine BigFrame.wpQuiet_want rfl (fun K hK => ?_); refine quiet_load_row 81 (.tmp 5) rfl _ rfl 81 _ (0, 0) _ (row_regrown r1) Tryz.underlying81 rfl num_info ?_; refine hK _ ?_; clear hK K) | (refine BigFrame.wpQuiet_want rfl (fun K hK => ?_); refine quiet_load_row 81 (.tmp 7) rfl _ rfl 81 _ (0, 0) _ (row_regrown r2) Tryz.underlying81 rfl num_info ?_; refine hK _ ?_; clear hK K) | (quiet_step (first | with_reducible exact e1 _ _ | with_reducible exact e2 _ _ | with_reducible exact e3 _ _)))
    refine wpQuiet_nil ?_; rintro wz ⟨⟨dq, osq⟩, rfl⟩; have hbq := below_regrown wq dq osq
    have hfin := Lib.hid (hT.step hbq).below
    clear e1 e2 e3 r1 r2 hbq hT
    go_wp2
    go_ret
    exact ⟨rfl, hfin.out⟩
set_option maxHeartbeats 1000000 in
theorem cmp_nn (s t : ByteArray) (w : World) (b1 b2 : Bool) (T1 T2 : ByteArray) (p1 p2 : Int) (hp1 : parseV (parseN s.data.toList) = .tuple #[.agg #[.bool b1, .string T1, .int .i64 p1], .bool false]) (hp2 : parseV (parseN t.data.toList) = .tuple #[.agg #[.bool b2, .string T2, .int .i64 p2], .bool false]) :
    Calls Tryz.prog 49 #[.string s, .string t] w fun e w' => e = .returned (.int .i64 (0)) ∧ Below w.heap.size w w' := by
  have HP1 := Lib.hid hp1
  have HP2 := Lib.hid hp2
  clear hp1 hp2
  go_enter Tryz.func49, Tryz.ntmps49
  go_wp2_with (first | (go_at_call 59; refine (parse_any _ _).mono ?_; rintro e w1 ⟨rfl, hb1⟩; rw [HP1.out]; have hB1 := Lib.hid hb1; clear hb1) | (go_at_call 59; refine (parse_any _ _).mono ?_; rintro e w2 ⟨rfl, hb2⟩; rw [HP2.out]; have hB2 := Lib.hid hb2; clear hb2))
  have hT := Two.make (o2 := (.cells #[.bool b2, .string T2, .int .i64 p2] 81)) hB1.out hB2.out
  go_ret
  exact ⟨rfl, hT.below⟩
set_option maxHeartbeats 1000000 in
theorem cmp_ny (s t : ByteArray) (w : World) (b1 b2 : Bool) (T1 T2 : ByteArray) (p1 p2 : Int) (hp1 : parseV (parseN s.data.toList) = .tuple #[.agg #[.bool b1, .string T1, .int .i64 p1], .bool false]) (hp2 : parseV (parseN t.data.toList) = .tuple #[.agg #[.bool b2, .string T2, .int .i64 p2], .bool true]) :
    Calls Tryz.prog 49 #[.string s, .string t] w fun e w' => e = .returned (.int .i64 (-1)) ∧ Below w.heap.size w w' := by
  have HP1 := Lib.hid hp1
  have HP2 := Lib.hid hp2
  clear hp1 hp2
  go_enter Tryz.func49, Tryz.ntmps49
  go_wp2_with (first | (go_at_call 59; refine (parse_any _ _).mono ?_; rintro e w1 ⟨rfl, hb1⟩; rw [HP1.out]; have hB1 := Lib.hid hb1; clear hb1) | (go_at_call 59; refine (parse_any _ _).mono ?_; rintro e w2 ⟨rfl, hb2⟩; rw [HP2.out]; have hB2 := Lib.hid hb2; clear hb2))
  have hT := Two.make (o2 := (.cells #[.bool b2, .string T2, .int .i64 p2] 81)) hB1.out hB2.out
  go_ret
  exact ⟨rfl, hT.below⟩
set_option maxHeartbeats 1000000 in
theorem cmp_yn (s t : ByteArray) (w : World) (b1 b2 : Bool) (T1 T2 : ByteArray) (p1 p2 : Int) (hp1 : parseV (parseN s.data.toList) = .tuple #[.agg #[.bool b1, .string T1, .int .i64 p1], .bool true]) (hp2 : parseV (parseN t.data.toList) = .tuple #[.agg #[.bool b2, .string T2, .int .i64 p2], .bool false]) :
    Calls Tryz.prog 49 #[.string s, .string t] w fun e w' => e = .returned (.int .i64 (1)) ∧ Below w.heap.size w w' := by
  have HP1 := Lib.hid hp1
  have HP2 := Lib.hid hp2
  clear hp1 hp2
  go_enter Tryz.func49, Tryz.ntmps49
  go_wp2_with (first | (go_at_call 59; refine (parse_any _ _).mono ?_; rintro e w1 ⟨rfl, hb1⟩; rw [HP1.out]; have hB1 := Lib.hid hb1; clear hb1) | (go_at_call 59; refine (parse_any _ _).mono ?_; rintro e w2 ⟨rfl, hb2⟩; rw [HP2.out]; have hB2 := Lib.hid hb2; clear hb2))
  have hT := Two.make (o2 := (.cells #[.bool b2, .string T2, .int .i64 p2] 81)) hB1.out hB2.out
  go_ret
  exact ⟨rfl, hT.below⟩
theorem cmp_any (s t : ByteArray) (w : World) : Calls Tryz.prog 49 #[.string s, .string t] w fun e w' => e = .returned (.int .i64 (cmpN s.data.toList t.data.toList)) ∧ Below w.heap.size w w' := by
  unfold cmpN
  cases hp1 : parseN s.data.toList with
  | none =>
    cases hp2 : parseN t.data.toList with
    | none => exact cmp_nn s t w false false ⟨#[]⟩ ⟨#[]⟩ 0 0 (by rw [hp1]; rfl) (by rw [hp2]; rfl)
    | some y => exact cmp_ny s t w false y.1 ⟨#[]⟩ ⟨y.2.1.toArray⟩ 0 y.2.2 (by rw [hp1]; rfl) (by rw [hp2]; rfl)
  | some x =>
    cases hp2 : parseN t.data.toList with
    | none => exact cmp_yn s t w x.1 false ⟨x.2.1.toArray⟩ ⟨#[]⟩ x.2.2 0 (by rw [hp1]; rfl) (by rw [hp2]; rfl)
    | some y => exact cmp_some s t w x.1 y.1 ⟨x.2.1.toArray⟩ ⟨y.2.1.toArray⟩ x.2.2 y.2.2 (by rw [hp1]; rfl) (by rw [hp2]; rfl)
end Go.Proofs.YtcpmehppfccihaaGreatDoor
namespace Go.Proofs.YtcpmehppfccihaaGreatDoor
open Go.RowKit
set_option linter.unusedVariables false
set_option linter.unusedSimpArgs false
set_option linter.unusedSectionVars false
section
variable (num : ByteArray → ByteArray → Bool) (f : FuncId) (fn : Func) (hf : Tryz.prog.funcs[f]? = some fn) (hname : (fn.name == "runtime.NumGoroutine") = false) (hbody : fn.body.isSome = true) (C : World → Prop) (hC : ∀ W W', C W → Below W.heap.size W W' → C W')
  (hnum : ∀ x y W, C W → x.size ≤ 9223372036854775807 → y.size ≤ 9223372036854775807 → Calls Tryz.prog f #[.string x, .string y] W fun e w' => e = .returned (.bool (num x y)) ∧ Below W.heap.size W w')
include hf hname hbody hC hnum
set_option maxRecDepth 100000 in
set_option maxHeartbeats 4000000 in
theorem same_gn (a b : VT) (w : World) (hw : C w) (ha : VT.In w.heap.size w a) (hb : VT.In w.heap.size w b) (ihl : ∀ i, i < a.ln → SameOk num f C (a.lt i)) (ihm : ∀ i, i < a.mn → SameOk num f C (a.mt i))
    (h : (a.k == b.k && a.n == b.n && a.ln == b.ln && a.mn == b.mn) = true) (hs : (a.s.toList == b.s.toList) = false) (h5 : (a.k == 3) = true) (h6 : num a.s b.s = true) :
    Calls Tryz.prog 47 #[.agg a.c, .agg b.c, .func (.func f) #[] #[]] w fun e w' => e = .returned (.bool (sameB num a b)) ∧ Below w.heap.size w w' := by
  have hh : Hid (sameB num a b = (allTo (fun i => sameB num (a.lt i) (b.lt i)) a.ln && allTo (fun i => (a.key i).toList == (b.key i).toList && sameB num (a.mt i) (b.mt i)) a.mn)) := by unfold Hid; rw [sameB_eq, h, hs, h5, h6]; simp
  have HA := ha.here
  have HB := hb.here
  have hll := HA.ll
  have hml := HA.ml
  have a0 : a.c[0]? = some (.int .i64 a.k) := rfl
  have a1 : a.c[1]? = some (.int .i64 a.n) := rfl
  have a2 : a.c[2]? = some (.string a.s) := rfl
  have a3 : a.c[3]? = some (.slice a.lA a.ln a.lc) := rfl
  have a4 : a.c[4]? = some (.slice a.mA a.mn a.mc) := rfl
  have b0 : b.c[0]? = some (.int .i64 b.k) := rfl
  have b1 : b.c[1]? = some (.int .i64 b.n) := rfl
  have b2 : b.c[2]? = some (.string b.s) := rfl
  have b3 : b.c[3]? = some (.slice b.lA b.ln b.lc) := rfl
  have b4 : b.c[4]? = some (.slice b.mA b.mn b.mc) := rfl
  simp only [Bool.and_eq_true] at h
  obtain ⟨⟨⟨q0, q1⟩, q2⟩, q3⟩ := h
  have h0b : (a.k != b.k) = false := by rw [bne, q0]; rfl
  have h1b : (a.n != b.n) = false := by rw [bne, q1]; rfl
  have h2b : ((a.ln : Int) != b.ln) = false := by have : a.ln = b.ln := (by simpa using q2); simp [this]
  have h3b : ((a.mn : Int) != b.mn) = false := by have : a.mn = b.mn := (by simpa using q3); simp [this]
  have hln : a.ln = b.ln := by simpa using q2
  have hmn : a.mn = b.mn := by simpa using q3
  have HL := Lib.hid hln
  have HM := Lib.hid hmn
  have IL := Lib.hid ihl
  have IM := Lib.hid ihm
  clear q0 q1 q2 q3 hln hmn ihl ihm
  have hsb : (a.s.toList != b.s.toList) = true := by rw [bne, hs]; rfl
  have HN := fun W (hB : Below w.heap.size w W) => hnum a.s b.s W (hC _ _ hw hB) ha.here.sl hb.here.sl
  rw [h6] at HN
  have HN := Lib.hid HN
  clear h6
  have hS0 : Sees w ((w.alloc (Obj.cells a.c 27)).alloc (Obj.cells b.c 27)) [(w.heap.size, Obj.cells a.c 27), (w.heap.size + 1, Obj.cells b.c 27)] := by
    have := ((Sees.start w).alloc (Obj.cells a.c 27)).alloc (Obj.cells b.c 27)
    simpa using this
  go_enter Tryz.func47, Tryz.ntmps47
  go_wp2_with (first | go_skip | (refine call_fn rfl (.tmp 49) #[.tmp 51, .tmp 53] #[9, 9] rfl rfl hf hname hbody #[.string a.s, .string b.s] (by simp only [List.map_toArray, List.map_cons, List.map_nil]; rfl) ?_; (with_reducible (refine (HN.out _ (((Below.refl _ _).alloc (Nat.le_refl _) _).alloc (by simp) _)).mono ?_)); rintro e w1 ⟨rfl, hb1⟩; refine ⟨_, rfl, ?_⟩; have hS1 := hS0.step hb1; clear hS0 hb1; have hS0 := hS1; clear hS1; have d3 : w1.cell? ⟨w.heap.size, 3, none⟩ = some (.slice a.lA a.ln a.lc) := (cell_of_row _ _ _ _ _ _ hS0.g0).trans a3))
  clear d3
  go_loopw [61] (fun iv wr => ∃ i : Nat, i ≤ a.ln ∧ iv = .int .i64 (i : Int) ∧ Hid (allTo (fun i => sameB num (a.lt i) (b.lt i)) i = true) ∧ Sees w wr [(w.heap.size, Obj.cells a.c 27), (w.heap.size + 1, Obj.cells b.c 27)]) (fun iv _ => a.ln - (intOf iv).toNat)
  case atStart => exact ⟨0, Nat.zero_le _, rfl, rfl, hS0⟩
  case round =>
    rename_i wr
    obtain ⟨i, hi, rfl, H, hS⟩ := hrel
    by_cases hlt : i < a.ln
    · have xa := HA.lix hlt
      have xb := HB.lix (HL.out ▸ hlt)
      have c3a : wr.cell? ⟨w.heap.size, 3, none⟩ = some (.slice a.lA a.ln a.lc) := (cell_of_row _ _ _ _ _ _ hS.g0).trans a3
      have c3b : wr.cell? ⟨w.heap.size + 1, 3, none⟩ = some (.slice b.lA b.ln b.lc) := (cell_of_row _ _ _ _ _ _ hS.g1).trans b3
      have c4a : wr.cell? ⟨w.heap.size, 4, none⟩ = some (.slice a.mA a.mn a.mc) := (cell_of_row _ _ _ _ _ _ hS.g0).trans a4
      have c4b : wr.cell? ⟨w.heap.size + 1, 4, none⟩ = some (.slice b.mA b.mn b.mc) := (cell_of_row _ _ _ _ _ _ hS.g1).trans b4
      have ka := cell_regrown c3a
      have kb := cell_regrown c3b
      have la := cells_regrown ((HA.move (hS.below)).lcell i hlt)
      have lb := cells_regrown ((HB.move (hS.below)).lcell i (HL.out ▸ hlt))
      have LA := Lib.hid la
      have LB := Lib.hid lb
      have hcall := fun W (hW : Below wr.heap.size wr W) => IL.out i hlt (b.lt i) W (hC _ _ hw (hS.below.trans (hW.mono hS.below.size))) (in_later (ha.l i hlt) hS.below hW) (in_later (hb.l i (HL.out ▸ hlt)) hS.below hW)
      have hone : Hid (allTo (fun i => sameB num (a.lt i) (b.lt i)) (i + 1) = sameB num (a.lt i) (b.lt i)) := by unfold Hid; rw [allTo, H.out]; rfl
      have hno := fun h => allTo_no (p := fun i => sameB num (a.lt i) (b.lt i)) hlt h
      have HNO := Lib.hid hno
      clear la lb hno
      cases hr : sameB num (a.lt i) (b.lt i)
      · rw [hr] at hcall
        have hcall := grown_calls hcall
        have hf := HNO.out hr
        have hf : Hid (sameB num a b = false) := by unfold Hid; rw [hh.out, hf]; rfl
        go_wp2_with fail
        refine wp_region_quiet_below (by kernel_rfl) (by kernel_rfl) ?_
        repeat (first | (refine BigFrame.wpQuiet_want rfl (fun K hK => ?_); refine quiet_load_cells 27 (.tmp 67) rfl _ _ rfl _ _ LA.out Tryz.underlying27 rfl (VT.val_info _) ?_; refine hK _ ?_; clear hK K) | (refine BigFrame.wpQuiet_want rfl (fun K hK => ?_); refine quiet_load_cells 27 (.tmp 72) rfl _ _ rfl _ _ LB.out Tryz.underlying27 rfl (VT.val_info _) ?_; refine hK _ ?_; clear hK K) | (quiet_step (with_reducible exact hcall _ _)))
        refine wpQuiet_nil ?_; rintro wq ⟨⟨dq, osq⟩, rfl⟩; have hbq := below_regrown wr dq osq; generalize Go.Sort.grow (redrawn wr dq) osq = wq at *
        go_wp2_with fail
        go_ret
        exact ⟨ret_bool hf.out.symm, (hS.step hbq).below⟩
      · rw [hr] at hcall
        have hcall := grown_calls hcall
        have hn : Hid (allTo (fun i => sameB num (a.lt i) (b.lt i)) (i + 1) = true) := hone.out.trans hr
        go_wp2_with fail
        refine wp_region_quiet_below (by kernel_rfl) (by kernel_rfl) ?_
        repeat (first | (refine BigFrame.wpQuiet_want rfl (fun K hK => ?_); refine quiet_load_cells 27 (.tmp 67) rfl _ _ rfl _ _ LA.out Tryz.underlying27 rfl (VT.val_info _) ?_; refine hK _ ?_; clear hK K) | (refine BigFrame.wpQuiet_want rfl (fun K hK => ?_); refine quiet_load_cells 27 (.tmp 72) rfl _ _ rfl _ _ LB.out Tryz.underlying27 rfl (VT.val_info _) ?_; refine hK _ ?_; clear hK K) | (quiet_step (with_reducible exact hcall _ _)))
        refine wpQuiet_nil ?_; rintro wq ⟨⟨dq, osq⟩, rfl⟩; have hbq := below_regrown wr dq osq; generalize Go.Sort.grow (redrawn wr dq) osq = wq at *
        go_wp2_with fail
        go_roundw
        case rel => exact ⟨i + 1, by omega, by go_num, hn, hS.step hbq⟩
        case measure => simp [intOf]; omega
    · obtain rfl : i = a.ln := by omega
      have hh : Hid (sameB num a b = allTo (fun i => (a.key i).toList == (b.key i).toList && sameB num (a.mt i) (b.mt i)) a.mn) := by unfold Hid; rw [hh.out, H.out]; rfl
      clear H
      have c3a : wr.cell? ⟨w.heap.size, 3, none⟩ = some (.slice a.lA a.ln a.lc) := (cell_of_row _ _ _ _ _ _ hS.g0).trans a3
      have c3b : wr.cell? ⟨w.heap.size + 1, 3, none⟩ = some (.slice b.lA b.ln b.lc) := (cell_of_row _ _ _ _ _ _ hS.g1).trans b3
      have c4a : wr.cell? ⟨w.heap.size, 4, none⟩ = some (.slice a.mA a.mn a.mc) := (cell_of_row _ _ _ _ _ _ hS.g0).trans a4
      have c4b : wr.cell? ⟨w.heap.size + 1, 4, none⟩ = some (.slice b.mA b.mn b.mc) := (cell_of_row _ _ _ _ _ _ hS.g1).trans b4
      go_wp2_with fail
      clear c3a c3b c4a c4b
      obtain ⟨wo, rfl⟩ : ∃ wo : World, wo = wr := ⟨_, rfl⟩
      go_loopw [81] (fun iv wr => ∃ i : Nat, i ≤ a.mn ∧ iv = .int .i64 (i : Int) ∧ Hid (allTo (fun i => (a.key i).toList == (b.key i).toList && sameB num (a.mt i) (b.mt i)) i = true) ∧ Sees w wr [(w.heap.size, Obj.cells a.c 27), (w.heap.size + 1, Obj.cells b.c 27)]) (fun iv _ => a.mn - (intOf iv).toNat)
      case atStart => exact ⟨0, Nat.zero_le _, rfl, rfl, hS⟩
      case round =>
        clear hS
        rename_i wr
        obtain ⟨i, hi, rfl, H, hS⟩ := hrel
        by_cases hlt : i < a.mn
        · have xa := HA.mix hlt
          have xb := HB.mix (HM.out ▸ hlt)
          have c3a : wr.cell? ⟨w.heap.size, 3, none⟩ = some (.slice a.lA a.ln a.lc) := (cell_of_row _ _ _ _ _ _ hS.g0).trans a3
          have c3b : wr.cell? ⟨w.heap.size + 1, 3, none⟩ = some (.slice b.lA b.ln b.lc) := (cell_of_row _ _ _ _ _ _ hS.g1).trans b3
          have c4a : wr.cell? ⟨w.heap.size, 4, none⟩ = some (.slice a.mA a.mn a.mc) := (cell_of_row _ _ _ _ _ _ hS.g0).trans a4
          have c4b : wr.cell? ⟨w.heap.size + 1, 4, none⟩ = some (.slice b.mA b.mn b.mc) := (cell_of_row _ _ _ _ _ _ hS.g1).trans b4
          have ka := cell_regrown c4a
          have kb := cell_regrown c4b
          have ya := cell_regrown ((HA.move hS.below).mkey hlt)
          have yb := cell_regrown ((HB.move hS.below).mkey (HM.out ▸ hlt))
          have LA := Lib.hid (cells_regrown ((HA.move hS.below).mval hlt))
          have LB := Lib.hid (cells_regrown ((HB.move hS.below).mval (HM.out ▸ hlt)))
          have hcall := fun W (hW : Below wr.heap.size wr W) => IM.out i hlt (b.mt i) W (hC _ _ hw (hS.below.trans (hW.mono hS.below.size))) (in_later (ha.m i hlt) hS.below hW) (in_later (hb.m i (HM.out ▸ hlt)) hS.below hW)
          have hone : Hid (allTo (fun i => (a.key i).toList == (b.key i).toList && sameB num (a.mt i) (b.mt i)) (i + 1) = ((a.key i).toList == (b.key i).toList && sameB num (a.mt i) (b.mt i))) := by unfold Hid; rw [allTo, H.out]; rfl
          have HNO := Lib.hid (fun h => allTo_no (p := fun i => (a.key i).toList == (b.key i).toList && sameB num (a.mt i) (b.mt i)) hlt h)
          cases hk : ((a.key i).toList == (b.key i).toList)
          · have hf : Hid (sameB num a b = false) := by unfold Hid; rw [hh.out]; exact HNO.out (by simp [hk])
            have hcall := Lib.hid hcall
            go_wp2_with fail
            refine wp_region_quiet_below (by kernel_rfl) (by kernel_rfl) ?_
            repeat (first | go_big_quiet_step (fail) | quiet_step (fail))
            refine wpQuiet_nil ?_; rintro wq ⟨⟨dq, osq⟩, rfl⟩; have hbq := below_regrown wr dq osq; generalize Go.Sort.grow (redrawn wr dq) osq = wq at *
            go_wp2_with fail
            go_ret
            exact ⟨ret_bool hf.out.symm, (hS.step hbq).below⟩
          cases hr : sameB num (a.mt i) (b.mt i)
          · rw [hr] at hcall
            have hcall := grown_calls hcall
            have hf : Hid (sameB num a b = false) := by unfold Hid; rw [hh.out]; exact HNO.out (by simp [hr])
            go_wp2_with fail
            refine wp_region_quiet_below (by kernel_rfl) (by kernel_rfl) ?_
            repeat (first | (refine BigFrame.wpQuiet_want rfl (fun K hK => ?_); refine quiet_load_cells 27 (.tmp 102) rfl _ _ rfl _ _ LA.out Tryz.underlying27 rfl (VT.val_info _) ?_; refine hK _ ?_; clear hK K) | (refine BigFrame.wpQuiet_want rfl (fun K hK => ?_); refine quiet_load_cells 27 (.tmp 108) rfl _ _ rfl _ _ LB.out Tryz.underlying27 rfl (VT.val_info _) ?_; refine hK _ ?_; clear hK K) | (quiet_step (with_reducible exact hcall _ _)))
            refine wpQuiet_nil ?_; rintro wq ⟨⟨dq, osq⟩, rfl⟩; have hbq := below_regrown wr dq osq; generalize Go.Sort.grow (redrawn wr dq) osq = wq at *
            go_wp2_with fail
            go_ret
            exact ⟨ret_bool hf.out.symm, (hS.step hbq).below⟩
          · rw [hr] at hcall
            have hcall := grown_calls hcall
            have hn : Hid (allTo (fun i => (a.key i).toList == (b.key i).toList && sameB num (a.mt i) (b.mt i)) (i + 1) = true) := by unfold Hid; rw [hone.out, hk, hr]; rfl
            go_wp2_with fail
            refine wp_region_quiet_below (by kernel_rfl) (by kernel_rfl) ?_
            repeat (first | (refine BigFrame.wpQuiet_want rfl (fun K hK => ?_); refine quiet_load_cells 27 (.tmp 102) rfl _ _ rfl _ _ LA.out Tryz.underlying27 rfl (VT.val_info _) ?_; refine hK _ ?_; clear hK K) | (refine BigFrame.wpQuiet_want rfl (fun K hK => ?_); refine quiet_load_cells 27 (.tmp 108) rfl _ _ rfl _ _ LB.out Tryz.underlying27 rfl (VT.val_info _) ?_; refine hK _ ?_; clear hK K) | (quiet_step (with_reducible exact hcall _ _)))
            refine wpQuiet_nil ?_; rintro wq ⟨⟨dq, osq⟩, rfl⟩; have hbq := below_regrown wr dq osq; generalize Go.Sort.grow (redrawn wr dq) osq = wq at *
            go_wp2_with fail
            go_roundw
            case rel => exact ⟨i + 1, by omega, by go_num, hn, hS.step hbq⟩
            case measure => simp [intOf]; omega
        · obtain rfl : i = a.mn := by omega
          go_wp2_with fail
          go_ret
          exact ⟨ret_bool (hh.out.trans H.out).symm, hS.below⟩
end
end Go.Proofs.YtcpmehppfccihaaGreatDoor
namespace Go.Proofs.YtcpmehppfccihaaGreatDoor
open Go.RowKit
set_option linter.unusedVariables false
set_option linter.unusedSimpArgs false
/-- Two texts say the same number. -/
def eqv (x y : ByteArray) : Bool := cmpN x.data.toList y.data.toList == 0
def equalV (a b : VT) : Bool := sameB eqv a b
theorem eqf_any (x y : ByteArray) (w : World) : Calls Tryz.prog 48 #[.string x, .string y] w fun e w' => e = .returned (.bool (eqv x y)) ∧ Below w.heap.size w w' := by
  have H := Lib.hid (fun W => cmp_any x y W)
  unfold eqv
  generalize cmpN x.data.toList y.data.toList = n at *
  go_enter Tryz.func48, Tryz.ntmps48
  go_wp2_with (first | go_skip | (go_at_call 49; with_reducible (refine (H.out _).mono ?_); rintro e wn ⟨rfl, hbn⟩))
  go_ret
  exact ⟨rfl, hbn⟩
theorem equal_v (a : VT) : SameOk eqv 48 (fun _ => True) a := by
  have hnum : ∀ (x y : ByteArray) (W : World), True → x.size ≤ 9223372036854775807 → y.size ≤ 9223372036854775807 → Calls Tryz.prog 48 #[.string x, .string y] W fun e w' => e = .returned (.bool (eqv x y)) ∧ Below W.heap.size W w' := fun x y W _ _ _ => eqf_any x y W
  have key : ∀ a : VT, (∀ i, i < a.ln → SameOk eqv 48 (fun _ => True) (a.lt i)) → (∀ i, i < a.mn → SameOk eqv 48 (fun _ => True) (a.mt i)) → SameOk eqv 48 (fun _ => True) a := by
    intro a ihl ihm b w hw ha hb
    cases h : (a.k == b.k && a.n == b.n && a.ln == b.ln && a.mn == b.mn)
    · exact same_no eqv 48 Tryz.f48 Tryz.func48 (by kernel_rfl) (by kernel_rfl) (fun _ => True) (fun _ _ _ _ => trivial) hnum a b w h
    cases hs : (a.s.toList == b.s.toList)
    · cases h5 : (a.k == 3)
      · exact same_txt eqv 48 Tryz.f48 Tryz.func48 (by kernel_rfl) (by kernel_rfl) (fun _ => True) (fun _ _ _ _ => trivial) hnum a b w hw ha hb h hs (by rw [h5]; rfl)
      cases h6 : eqv a.s b.s
      · exact same_txt eqv 48 Tryz.f48 Tryz.func48 (by kernel_rfl) (by kernel_rfl) (fun _ => True) (fun _ _ _ _ => trivial) hnum a b w hw ha hb h hs (by rw [h5, h6]; rfl)
      · exact same_gn eqv 48 Tryz.f48 Tryz.func48 (by kernel_rfl) (by kernel_rfl) (fun _ => True) (fun _ _ _ _ => trivial) hnum a b w hw ha hb ihl ihm h hs h5 h6
    · exact same_go eqv 48 Tryz.f48 Tryz.func48 (by kernel_rfl) (by kernel_rfl) (fun _ => True) (fun _ _ _ _ => trivial) hnum a b w hw ha hb ihl ihm h hs
  induction a with
  | no => exact key .no (fun i hi => absurd hi (Nat.not_lt_zero i)) (fun i hi => absurd hi (Nat.not_lt_zero i))
  | mk k n s lA lb lo ln lc lt mA mb mo mn mc ky mt ihl ihm => exact key _ (fun i _ => ihl i) (fun i _ => ihm i)
set_option maxHeartbeats 1000000 in
theorem vEqual_any (a b : VT) (w : World) (ha : VT.In w.heap.size w a) (hb : VT.In w.heap.size w b) : Calls Tryz.prog 15 #[.agg a.c, .agg b.c] w fun e w' => e = .returned (.bool (equalV a b)) ∧ Below w.heap.size w w' := by
  have H := Lib.hid (fun (W : World) (hW : Below w.heap.size w W) => equal_v a b W trivial ((ha.move hW).up hW.size) ((hb.move hW).up hW.size))
  have hS0 : Sees w ((w.alloc (Obj.cells a.c 27)).alloc (Obj.cells b.c 27)) [(w.heap.size, Obj.cells a.c 27), (w.heap.size + 1, Obj.cells b.c 27)] := by
    have := ((Sees.start w).alloc (Obj.cells a.c 27)).alloc (Obj.cells b.c 27)
    simpa using this
  clear ha hb
  go_enter Tryz.func15, Tryz.ntmps15
  go_wp2_with (first | go_skip | (refine wpList_load_row' rfl 27 (.tmp 2) rfl _ rfl 27 _ (0, 0) _ hS0.g0 Tryz.underlying27 rfl (VT.val_info _) ?_) | (refine wpList_load_row' rfl 27 (.tmp 3) rfl _ rfl 27 _ (0, 0) _ hS0.g1 Tryz.underlying27 rfl (VT.val_info _) ?_) | (go_at_call 47; with_reducible (refine (H.out _ hS0.below).mono ?_); rintro e w1 ⟨rfl, hb1⟩))
  go_ret
  exact ⟨ret_bool rfl, (hS0.step hb1).below⟩
end Go.Proofs.YtcpmehppfccihaaGreatDoor
