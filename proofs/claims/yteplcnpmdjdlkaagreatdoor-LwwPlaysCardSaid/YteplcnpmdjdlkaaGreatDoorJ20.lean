/-
  The reference's Texts: are two rows of texts alike? No condition.
  Rows of words, of whole numbers, that came in; an operation applied, the map's size. No condition.
  A slice that came in, read as data, is a row of elements, each read as data. No condition.
  Slices of words and of whole numbers that came in, read as data. No condition.
-/
import Derived.Test.YteplcnpmdjdlkaaGreatDoorJ18
import Derived.Test.YteplcnpmdjdlkaaGreatDoorJ21
import Derived.Test.YteplcnpmdjdlkaaGreatDoorJ12
namespace Go.Proofs.YteplcnpmdjdlkaaGreatDoor
open Go.RowKit Go.Sort
set_option linter.unusedVariables false
set_option linter.unusedSimpArgs false
set_option linter.unusedSectionVars false
/-- A row of texts. -/
structure SIn (w : World) (A : Option Addr) (g : Nat) (K : List (List UInt8)) : Prop where
  a : 0 < K.length → A = some ⟨g, 0, none⟩ ∧ g < w.heap.size
  c : ∀ (j : Nat) s, K[j]? = some s → w.cell? ⟨g, j, none⟩ = some (.string (kb s))
theorem SIn.move {w w' : World} {A : Option Addr} {g : Nat} {K : List (List UInt8)} (h : SIn w A g K) (hb : Below w.heap.size w w') : SIn w' A g K :=
  ⟨fun h0 => ⟨(h.a h0).1, Nat.lt_of_lt_of_le (h.a h0).2 hb.size⟩, fun j s hs => by
    have h0 : 0 < K.length := by have := (List.getElem?_eq_some_iff.1 hs).1; omega
    exact (hb.cell (p := ⟨g, j, none⟩) (h.a h0).2).trans (h.c j s hs)⟩
theorem sin_of_row {w : World} {base n : Nat} {v : Value} {K : List (List UInt8)} {e : TypeId} (h : w.ownsRow base e 1 v n (K.map encStr)) (hn : n = K.length) : ∃ A g c, v = .slice A n c ∧ SIn w A g K := by
  obtain ⟨A, g, c, rfl, hA⟩ := row_slice h
  exact ⟨A, g, c, rfl, fun h0 => ⟨(hA (by omega)).1, (hA (by omega)).2.2.1⟩, fun j s hs => (hA (by have := (List.getElem?_eq_some_iff.1 hs).1; omega)).2.2.2 j _ (by rw [List.getElem?_map, hs]; rfl)⟩
theorem kb_inj {a b : List UInt8} (h : kb a = kb b) : a = b := by
  have := congrArg (fun x => x.data.toList) h
  simpa [kb] using this
set_option maxRecDepth 100000 in
set_option maxHeartbeats 1000000 in
theorem texts_any (A1 A2 : Option Addr) (g1 g2 c1 c2 : Nat) (K1 K2 : List (List UInt8)) (w : World) (h1 : SIn w A1 g1 K1) (h2 : SIn w A2 g2 K2) (hn1 : K1.length ≤ 1000000) (hn2 : K2.length ≤ 1000000) :
    Calls Tryz.prog 19 #[.slice A1 K1.length c1, .slice A2 K2.length c2] w fun e w' => e = .returned (.bool (decide (K1 = K2))) ∧ Below w.heap.size w w' := by
  have H1 := Lib.hid h1
  have H2 := Lib.hid h2
  clear h1 h2
  by_cases hl : K1.length = K2.length
  · have hlb : (((K1.length : Nat) : Int) != ((K2.length : Nat) : Int)) = false := by rw [hl]; simp
    have HLn := Lib.hid hl
    clear hl
    go_enter Tryz.func19, Tryz.ntmps19
    go_wp2_with go_skip
    go_loopw [5] (fun iv wr => ∃ j : Nat, j ≤ K1.length ∧ iv = .int .i64 (j : Int) ∧ K1.take j = K2.take j ∧ Below w.heap.size w wr) (fun iv _ => K1.length - (intOf iv).toNat)
    case atStart => exact ⟨0, Nat.zero_le _, rfl, rfl, Below.refl _ _⟩
    case round =>
      rename_i wr
      obtain ⟨j, hj, rfl, he, hb⟩ := hrel
      have HB := Lib.hid hb
      have HE := Lib.hid he
      clear hb he
      by_cases hlt : j < K1.length
      · have hltb : decide ((j : Int) < K1.length) = true := by simp; omega
        obtain ⟨s1, e1⟩ : ∃ s, K1[j]? = some s := ⟨_, List.getElem?_eq_getElem hlt⟩
        obtain ⟨s2, e2⟩ : ∃ s, K2[j]? = some s := ⟨_, List.getElem?_eq_getElem (by have := HLn.out; omega)⟩
        obtain ⟨a1, l1⟩ := H1.out.a (by omega)
        obtain ⟨a2, l2⟩ := H2.out.a (by have := HLn.out; omega)
        subst a1 a2
        have k1 := cell_regrown ((HB.out.cell (p := ⟨g1, j, none⟩) l1).trans (H1.out.c j s1 e1))
        have k2 := cell_regrown ((HB.out.cell (p := ⟨g2, j, none⟩) l2).trans (H2.out.c j s2 e2))
        have hlt2 : j < K2.length := by have := HLn.out; omega
        have hJ : Hid (s1 = s2 → K1.take (j + 1) = K2.take (j + 1)) := Lib.hid fun h => by rw [List.take_add_one, List.take_add_one, e1, e2, h, HE.out]
        have hD : Hid (s1 ≠ s2 → K1 ≠ K2) := Lib.hid fun h hK => by subst hK; rw [e1] at e2; exact h (Option.some.inj e2)
        clear e1 e2
        by_cases hs : s1 = s2
        · subst hs
          go_wp2_with go_skip
          refine wp_region_quiet_below (by kernel_rfl) (by kernel_rfl) ?_
          repeat (first | (quiet_step (fail)))
          refine wpQuiet_nil ?_; rintro wq ⟨⟨dq, osq⟩, rfl⟩; have hbq := below_regrown wr dq osq; generalize Go.Sort.grow (redrawn wr dq) osq = wq at *
          have HQ := Lib.hid (HB.out.trans (hbq.mono HB.out.size))
          clear hbq k1 k2
          go_wp2_with go_skip
          go_roundw
          case rel => exact ⟨j + 1, by omega, by go_num, hJ.out trivial, HQ.out⟩
          case measure => simp [intOf]; omega
        · have hne : ((kb s1).toList == (kb s2).toList) = false := by
            rw [beq_eq_false_iff_ne]
            intro h
            exact hs (kb_inj (ba_eq h))
          have hfin := Lib.hid (hD.out hs)
          go_wp2_with go_skip
          refine wp_region_quiet_below (by kernel_rfl) (by kernel_rfl) ?_
          repeat (first | (quiet_step (fail)))
          refine wpQuiet_nil ?_; rintro wq ⟨⟨dq, osq⟩, rfl⟩; have hbq := below_regrown wr dq osq; generalize Go.Sort.grow (redrawn wr dq) osq = wq at *
          have HQ := Lib.hid (HB.out.trans (hbq.mono HB.out.size))
          clear hbq k1 k2
          go_wp2_with go_skip
          go_ret
          exact ⟨ret_bool (decide_eq_false hfin.out).symm, HQ.out⟩
      · have hge : decide ((j : Int) < K1.length) = false := by simp; omega
        have hfin : Hid (K1 = K2) := Lib.hid (by have := HE.out; have hq := HLn.out; rwa [List.take_of_length_le (by omega), List.take_of_length_le (by omega)] at this)
        go_wp2_with go_skip
        go_ret
        exact ⟨ret_bool (decide_eq_true hfin.out).symm, HB.out⟩
  · have hlb : (((K1.length : Nat) : Int) != ((K2.length : Nat) : Int)) = true := by simp; omega
    have hfin : Hid (K1 ≠ K2) := Lib.hid (fun h => hl (congrArg List.length h))
    go_enter Tryz.func19, Tryz.ntmps19
    go_wp2_with go_skip
    go_ret
    exact ⟨ret_bool (decide_eq_false hfin.out).symm, Below.refl _ _⟩
end Go.Proofs.YteplcnpmdjdlkaaGreatDoor
namespace Go.Proofs.YteplcnpmdjdlkaaGreatDoor
open Go.RowKit
set_option linter.unusedVariables false
set_option linter.unusedSimpArgs false
/-- A row of words. -/
structure WsIn (B : Nat) (W : World) (A : Option Addr) (g o : Nat) (L : List WordV) : Prop where
  a : 0 < L.length → A = some ⟨g, o, none⟩ ∧ g < B
  c : ∀ (i : Nat) x, L[i]? = some x → ∀ (j : Nat) v, x.c[j]? = some v → W.cell? ⟨g, o + i * 5 + j, none⟩ = some v
  ok : ∀ x ∈ L, x.Ok
theorem WsIn.move {B : Nat} {W W' : World} {A : Option Addr} {g o : Nat} {L : List WordV} (h : WsIn B W A g o L) (hb : Below B W W') : WsIn B W' A g o L :=
  ⟨h.a, fun i x hx j v hv => by
    have h0 : 0 < L.length := by have := (List.getElem?_eq_some_iff.1 hx).1; omega
    exact (hb.cell (p := ⟨g, o + i * 5 + j, none⟩) (h.a h0).2).trans (h.c i x hx j v hv), h.ok⟩
theorem WsIn.up {B B' : Nat} {W : World} {A : Option Addr} {g o : Nat} {L : List WordV} (h : WsIn B W A g o L) (hb : B ≤ B') : WsIn B' W A g o L := ⟨fun h0 => ⟨(h.a h0).1, Nat.lt_of_lt_of_le (h.a h0).2 hb⟩, h.c, h.ok⟩
theorem word_info (x : WordV) : (Tryz.prog.info? 39).map (·.size) = some x.c.size := by
  show _ = some 5
  kernel_rfl
theorem info5w : (Tryz.prog.info? 39).map (·.size) = some 5 := by kernel_rfl
theorem WsIn.ix {B : Nat} {W : World} {A : Option Addr} {g o : Nat} {L : List WordV} (h : WsIn B W A g o L) {i : Nat} (hi : i < L.length) (c : Nat) (V : World) : (Instr.indexAt 45 (.slice A L.length c) (.int .i64 (i : Int))).run Tryz.prog V = .ok (.pointer (some ⟨g, o + i * 5, none⟩)) V :=
  run_index_row (P := Tryz.prog) 45 39 Tryz.underlying45 5 info5w (h.a (by omega)).1 hi c V
/-- A row of whole numbers. -/
structure NsIn (B : Nat) (W : World) (A : Option Addr) (g o : Nat) (L : List Int) : Prop where
  a : 0 < L.length → A = some ⟨g, o, none⟩ ∧ g < B
  c : ∀ (i : Nat) n, L[i]? = some n → W.cell? ⟨g, o + i, none⟩ = some (.int .i64 n)
theorem NsIn.move {B : Nat} {W W' : World} {A : Option Addr} {g o : Nat} {L : List Int} (h : NsIn B W A g o L) (hb : Below B W W') : NsIn B W' A g o L :=
  ⟨h.a, fun i n hn => by
    have h0 : 0 < L.length := by have := (List.getElem?_eq_some_iff.1 hn).1; omega
    exact (hb.cell (p := ⟨g, o + i, none⟩) (h.a h0).2).trans (h.c i n hn)⟩
theorem info1n : (Tryz.prog.info? 3).map (·.size) = some 1 := by kernel_rfl
theorem NsIn.ix {B : Nat} {W : World} {A : Option Addr} {g o : Nat} {L : List Int} (h : NsIn B W A g o L) {i : Nat} (hi : i < L.length) (c : Nat) (V : World) : (Instr.indexAt 52 (.slice A L.length c) (.int .i64 (i : Int))).run Tryz.prog V = .ok (.pointer (some ⟨g, o + i, none⟩)) V := by
  have := run_index_row (P := Tryz.prog) 52 3 Tryz.underlying52 1 info1n (h.a (by omega)).1 hi c V
  rwa [Nat.mul_one] at this
theorem applied_len {x : OT} {l l2 : Wd} {r : Bool} (h : Applied x l r l2) : l2.length ≤ l.length + 1 := by
  obtain ⟨_, h⟩ := h
  split at h
  · obtain ⟨y, _, _, rfl⟩ := h
    exact put_len _ _ _
  · rw [h]; omega
/-- A word, applied. -/
theorem apply_word (x : WordV) (l : Wd) (p b : Nat) (w : World) (hw : Vars w) (hx : x.Ok) (hl : WdOk l) (hp : w.heap[p]? = some (headO b)) (hb : w.heap[b]? = some (wordsO l)) :
    Calls Tryz.prog 9 #[.pointer (some ⟨p, 0, none⟩), opv (WordV.op x).o] w fun e w' => ∃ r l2, e = .returned (.bool r) ∧ (Applied (WordV.op x) l r l2 ∧ WdOk l2 ∧ l2.length ≤ l.length + 1) ∧ w'.heap[b]? = some (wordsO l2) ∧ But b w w' :=
  (lApply_any (WordV.op x) l p b w hw ((WordV.op_ok hx).opin _) hl hp hb).mono fun e w' ⟨r, l2, he, ha, hm, hbut⟩ => ⟨r, l2, he, ⟨ha, ha.ok hl (by rw [word_key]; exact hx.key), applied_len ha⟩, hm, hbut⟩
/-- A key, looked up, in a map behind words. -/
theorem same_get {l : Wd} {k : ByteArray} {y : OT} (h : getW l k = some y) : assoc l k = some y ∧ (y.o.K == 1) = true := by
  unfold getW at h
  cases ha : assoc l k with
  | none => rw [ha] at h; cases h
  | some z =>
    rw [ha] at h
    cases hq : (z.o.K == 1) with
    | false => simp [hq] at h
    | true => simp [hq] at h; subst h; exact ⟨rfl, hq⟩
theorem keysW_get {l : Wd} {s : List UInt8} (h : s ∈ keysW l) : ∃ y, getW l (kb s) = some y := by
  unfold keysW at h
  rw [List.mem_filter] at h
  obtain ⟨h1, h2⟩ := h
  obtain ⟨y, hy⟩ := sortK_mem h1
  refine ⟨y, ?_⟩
  unfold onK at h2
  unfold getW
  rw [hy] at h2 ⊢
  have h2 : (y.o.K == 1) = true := h2
  simp [h2]
section
variable {P : Program} {ops : Array Oper} {rest : List Oper} {o : Oper} {a : Act} {w : World} {Q : Exit → Act → World → Prop}
/-- A cell that is known, read. -/
theorem load_one (hwt : Region.wanted o (yielded ops a.tmps) = true) (ty : TypeId) (x : Operand) (ho : o.op = .load ty x) (b i : Nat) (hx : a.eval x = .pointer (some ⟨b, i, none⟩)) (u : Value) (d : TypeDesc) (hc : w.cell? ⟨b, i, none⟩ = some u)
    (hu : P.underlying ty = some d) (hd : (match d with | .struct _ | .array _ _ => false | _ => true) = true) (h : wpList P ops Q rest (a.put o.dst u) w) : wpList P ops Q (o :: rest) a w :=
  BigFrame.wpList_want hwt fun K hK => by
    have hagg : (isAgg ty).run P w = .ok false w := by
      unfold isAgg
      rw [Sem.run_bind, run_underlying hu w]
      cases d <;> simp_all
    have hl : (loadVar ty ⟨b, i, none⟩).run P w = .ok u w := by simp [loadVar, Sem.run_bind, hagg, hc]
    unfold Oper.wp execOp
    simp only [ho, hx, Instr.loadAt, Instr.sureAddr, Sem.run_bind, Sem.run_pure, Result.andThen_ok, hl]
    exact hK _ _ h
end
theorem get_is {l : Wd} {key : ByteArray} {y : OT} {p b : Nat} {w : World} (hy : getW l key = some y) (hk : KSz key) (hl : WdOk l) (hp : w.heap[p]? = some (headO b)) (hb : w.heap[b]? = some (wordsO l)) :
    Calls Tryz.prog 11 #[.pointer (some ⟨p, 0, none⟩), .string key] w fun e w' => ∃ z : OT, e = .returned (.tuple #[opv z.o, .bool true]) ∧ OT.Ok z ∧ OT.Same y z ∧ Below w.heap.size w w' := by
  have h := lGet_any l key p b w hk hl hp hb
  rw [hy] at h
  exact h
end Go.Proofs.YteplcnpmdjdlkaaGreatDoor
namespace Go.Proofs.YteplcnpmdjdlkaaGreatDoor
open Go.RowKit Go.ChangeShapes
set_option linter.unusedVariables false
section
variable {H : Type} {enc : TypeId × Value → H} {W : World} {base : Nat} {spare : Nat → Bool} {held : Bool}
/-- A slice's elements, each told by 'each'. -/
theorem open_slice {T E : TypeId} (ht : Tryz.prog.underlying T = some (.slice E)) {sz : Nat} (hsz : Tryz.prog.cellsOf E = sz) (h0 : 0 < sz) {K : Type} [Inhabited K] (C : K → List Value) (Pk : K → Prop)
    (each : ∀ (n : Nat) cs y, DataW.trod enc Tryz.prog W base spare held n E cs = some y → ∃ x : K, cs = C x ∧ Pk x) {fuel : Nat} {cs : List Value} {x : DataW H × List MemPlace} (h : DataW.trod enc Tryz.prog W base spare held fuel T cs = some x) :
    ∃ (A : Option Addr) (g o c : Nat) (L : List K), cs = [.slice A L.length c] ∧ (0 < L.length → A = some ⟨g, o, none⟩ ∧ g < W.heap.size) ∧ (∀ (i : Nat) x, L[i]? = some x → ∀ (j : Nat) v, (C x)[j]? = some v → W.cell? ⟨g, o + i * sz + j, none⟩ = some v) ∧ (∀ x ∈ L, Pk x) ∧ L.length ≤ 9223372036854775807 := by
  rcases DataW.trod_slice ht h with ⟨hc, _⟩ | ⟨a, len, cap, elems, rst, n', hn, hc, _, hb, hlc, hcap, hel, he, _, _⟩
  · exact ⟨none, 0, 0, 0, [], hc, fun h => absurd h (Nat.lt_irrefl 0), fun i x hx => by simp at hx, fun x hx => absurd hx (List.not_mem_nil), Nat.zero_le _⟩
  · have key : ∀ i, i < len → ∃ t : K, W.cells? base (a.add (i * sz)) sz = some (C t) ∧ Pk t := by
      intro i hi
      have := he i hi
      rw [List.getElem?_eq_getElem (by omega), hsz] at this
      obtain ⟨cs', q1, q2⟩ := Option.bind_eq_some_iff.1 this
      obtain ⟨t, rfl, ht⟩ := each n' cs' _ q2
      exact ⟨t, q1, ht⟩
    obtain ⟨F, hF⟩ := Go.Deep.choose_lt key
    have hL : ((List.range len).map F).length = len := by simp
    have hget : ∀ (i : Nat) x, ((List.range len).map F)[i]? = some x → i < len ∧ F i = x := by
      intro i x hx
      have hi : i < len := by have := (List.getElem?_eq_some_iff.1 hx).1; simpa using this
      refine ⟨hi, ?_⟩
      simpa [hi] using hx
    have hm63 : len ≤ 9223372036854775807 := by
      have : maxLen = 9223372036854775807 := by decide
      omega
    have hmem : ∀ x ∈ (List.range len).map F, Pk x := fun x hx => by
      obtain ⟨i, hi, rfl⟩ := List.mem_map.1 hx
      exact (hF i (List.mem_range.1 hi)).2
    rcases Nat.eq_zero_or_pos len with hz | hz
    · subst hz
      exact ⟨some a, 0, 0, cap, [], hc, fun h => absurd h (Nat.lt_irrefl 0), fun i x hx => by simp at hx, fun x hx => absurd hx (List.not_mem_nil), Nat.zero_le _⟩
    · obtain ⟨r1, r2, r3⟩ := row_at h0 hz (C := fun i => C (F i)) (fun i hi => (hF i hi).1)
      refine ⟨some a, a.block, a.off, cap, (List.range len).map F, by rw [hL]; exact hc, fun _ => ⟨by rw [← r1], r2⟩, fun i x hx j v hv => ?_, hmem, by rw [hL]; exact hm63⟩
      obtain ⟨hi, rfl⟩ := hget i x hx
      exact r3 i hi j v hv
end
end Go.Proofs.YteplcnpmdjdlkaaGreatDoor
namespace Go.Proofs.YteplcnpmdjdlkaaGreatDoor
open Go.RowKit Go.ChangeShapes
set_option linter.unusedVariables false
instance : Inhabited WordV := ⟨⟨0, 0, ⟨#[]⟩, false, 0⟩⟩
section
variable {H : Type} {enc : TypeId × Value → H} {W : World} {base : Nat} {spare : Nat → Bool} {held : Bool}
theorem cellsW : Tryz.prog.cellsOf 39 = 5 := by kernel_rfl
theorem cellsInt : Tryz.prog.cellsOf 3 = 1 := by kernel_rfl
theorem cellsBool : Tryz.prog.cellsOf 4 = 1 := by kernel_rfl
theorem open_word (fuel : Nat) (cs : List Value) (x : DataW H × List MemPlace) (h : DataW.trod enc Tryz.prog W base spare held fuel 39 cs = some x) : ∃ t : WordV, cs = t.c.toList ∧ t.Ok := by
  obtain ⟨xs, n, _, _, hl, hlen, hf⟩ := DataW.trod_struct Tryz.underlying39 h
  rw [cellsW] at hl
  obtain ⟨c0, c1, c2, c3, c4, rfl⟩ := five hl
  have g : ∀ i : Nat, i < 5 → ∃ y, xs[i]? = some y := fun i hi => ⟨xs[i]'(by rw [hlen]; exact hi), List.getElem?_eq_getElem _⟩
  obtain ⟨y0, e0⟩ := g 0 (by decide)
  obtain ⟨y1, e1⟩ := g 1 (by decide)
  obtain ⟨y2, e2⟩ := g 2 (by decide)
  obtain ⟨y3, e3⟩ := g 3 (by decide)
  obtain ⟨y4, e4⟩ := g 4 (by decide)
  have h0 : DataW.trod enc Tryz.prog W base spare held n 3 (([c0, c1, c2, c3, c4].drop 0).take (Tryz.prog.cellsOf 3)) = some y0 := (hf 0 _ rfl).trans e0
  have h1 : DataW.trod enc Tryz.prog W base spare held n 2 (([c0, c1, c2, c3, c4].drop 1).take (Tryz.prog.cellsOf 2)) = some y1 := (hf 1 _ rfl).trans e1
  have h2 : DataW.trod enc Tryz.prog W base spare held n 9 (([c0, c1, c2, c3, c4].drop 2).take (Tryz.prog.cellsOf 9)) = some y2 := (hf 2 _ rfl).trans e2
  have h3 : DataW.trod enc Tryz.prog W base spare held n 4 (([c0, c1, c2, c3, c4].drop 3).take (Tryz.prog.cellsOf 4)) = some y3 := (hf 3 _ rfl).trans e3
  have h4 : DataW.trod enc Tryz.prog W base spare held n 2 (([c0, c1, c2, c3, c4].drop 4).take (Tryz.prog.cellsOf 2)) = some y4 := (hf 4 _ rfl).trans e4
  simp only [cellsInt, cellsI, cellsS, cellsBool, List.drop_succ_cons, List.drop_zero, List.take_succ_cons, List.take_zero] at h0 h1 h2 h3 h4
  obtain ⟨R, hR, _, wR⟩ := DataW.trod_int Tryz.underlying3 h0
  obtain ⟨T, hT, _, wT⟩ := DataW.trod_int Tryz.underlying2 h1
  obtain ⟨s, hs, _, hsz⟩ := DataW.trod_string Tryz.underlying9 h2
  obtain ⟨f, hf', _⟩ := DataW.trod_bool Tryz.underlying4 h3
  obtain ⟨m, hm, _, wm⟩ := DataW.trod_int Tryz.underlying2 h4
  obtain rfl : c0 = .int .i64 R := by simpa using hR
  obtain rfl : c1 = .int .i64 T := by simpa using hT
  obtain rfl : c2 = .string s := by simpa using hs
  obtain rfl : c3 = .bool f := by simpa using hf'
  obtain rfl : c4 = .int .i64 m := by simpa using hm
  exact ⟨⟨R, T, s, f, m⟩, rfl, ⟨wf_i64 wR, wf_i64 wT, wf_i64 wm, show s.size ≤ _ by have : maxLen = 9223372036854775807 := (by decide); omega⟩⟩
theorem open_words {fuel : Nat} {cs : List Value} {x : DataW H × List MemPlace} (h : DataW.trod enc Tryz.prog W base spare held fuel 45 cs = some x) :
    ∃ (A : Option Addr) (g o c : Nat) (L : List WordV), cs = [.slice A L.length c] ∧ WsIn W.heap.size W A g o L := by
  obtain ⟨A, g, o, c, L, hc, ha, hcell, hp, _⟩ := open_slice Tryz.underlying45 cellsW (by decide) (fun t : WordV => t.c.toList) WordV.Ok (fun n cs y hy => open_word n cs y hy) h
  exact ⟨A, g, o, c, L, hc, ⟨ha, fun i x hx j v hv => hcell i x hx j v (by simpa using hv), hp⟩⟩
theorem open_nums {fuel : Nat} {cs : List Value} {x : DataW H × List MemPlace} (h : DataW.trod enc Tryz.prog W base spare held fuel 52 cs = some x) :
    ∃ (A : Option Addr) (g o c : Nat) (L : List Int), cs = [.slice A L.length c] ∧ NsIn W.heap.size W A g o L ∧ L.length ≤ 9223372036854775807 := by
  obtain ⟨A, g, o, c, L, hc, ha, hcell, hp, hl⟩ := open_slice Tryz.underlying52 cellsInt (by decide) (fun n : Int => [Value.int .i64 n]) (fun n => -9223372036854775808 ≤ n ∧ n ≤ 9223372036854775807) (fun n cs y hy => by
    obtain ⟨R, hR, _, wR⟩ := DataW.trod_int Tryz.underlying3 hy
    exact ⟨R, hR, wf_i64 wR⟩) h
  exact ⟨A, g, o, c, L, hc, ⟨ha, fun i n hn => by have := hcell i n hn 0 _ rfl; simpa using this⟩, hl⟩
end
end Go.Proofs.YteplcnpmdjdlkaaGreatDoor
