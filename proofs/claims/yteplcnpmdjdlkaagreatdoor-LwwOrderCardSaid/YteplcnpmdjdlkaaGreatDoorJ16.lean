/-
  The reference's Texts: are two rows of texts alike? No condition.
  The last word counts, whatever the order in which the words came: plain. No condition.
  Rows of words, of whole numbers, that came in; an operation applied, the map's size. No condition.
-/
import Derived.Test.YteplcnpmdjdlkaaGreatDoorLwwKJ
import Derived.Test.YteplcnpmdjdlkaaGreatDoorWordOpJ
namespace Go.Proofs.YteplcnpmdjdlkaaGreatDoor
open Go.RowKit Go.Sort
set_option linter.unusedVariables false
set_option linter.unusedSimpArgs false
set_option linter.unusedSectionVars false
/-- A row of texts. -/
structure SIn (w : World) (A : Option Addr) (g : Nat) (K : List (List UInt8)) : Prop where
  a : 0 < K.length → A = some ⟨g, 0, none⟩ ∧ g < w.heap.size
  c : ∀ (j : Nat) s, K[j]? = some s → w.cell? ⟨g, j, none⟩ = some (.string (kb s))
theorem SIn.move {w w' : World} {A : Option Addr} {g : Nat} {K : List (List UInt8)} (h : SIn w A g K) (hb : Below w.heap.size w w') : SIn w' A g K :=
  ⟨fun h0 => ⟨(h.a h0).1, Nat.lt_of_lt_of_le (h.a h0).2 hb.size⟩, fun j s hs => by
    have h0 : 0 < K.length := by have := (List.getElem?_eq_some_iff.1 hs).1; omega
    exact (hb.cell (p := ⟨g, j, none⟩) (h.a h0).2).trans (h.c j s hs)⟩
theorem sin_of_row {w : World} {base n : Nat} {v : Value} {K : List (List UInt8)} {e : TypeId} (h : w.ownsRow base e 1 v n (K.map encStr)) (hn : n = K.length) : ∃ A g c, v = .slice A n c ∧ SIn w A g K := by
  obtain ⟨A, g, c, rfl, hA⟩ := row_slice h
  exact ⟨A, g, c, rfl, fun h0 => ⟨(hA (by omega)).1, (hA (by omega)).2.2.1⟩, fun j s hs => (hA (by have := (List.getElem?_eq_some_iff.1 hs).1; omega)).2.2.2 j _ (by rw [List.getElem?_map, hs]; rfl)⟩
theorem kb_inj {a b : List UInt8} (h : kb a = kb b) : a = b := by
  have := congrArg (fun x => x.data.toList) h
  simpa [kb] using this
set_option maxRecDepth 100000 in
set_option maxHeartbeats 1000000 in
theorem texts_any (A1 A2 : Option Addr) (g1 g2 c1 c2 : Nat) (K1 K2 : List (List UInt8)) (w : World) (h1 : SIn w A1 g1 K1) (h2 : SIn w A2 g2 K2) (hn1 : K1.length ≤ 1000000) (hn2 : K2.length ≤ 1000000) :
    Calls Tryz.prog 19 #[.slice A1 K1.length c1, .slice A2 K2.length c2] w fun e w' => e = .returned (.bool (decide (K1 = K2))) ∧ Below w.heap.size w w' := by
  have H1 := Lib.hid h1
  have H2 := Lib.hid h2
  clear h1 h2
  by_cases hl : K1.length = K2.length
  · have hlb : (((K1.length : Nat) : Int) != ((K2.length : Nat) : Int)) = false := by rw [hl]; simp
    have HLn := Lib.hid hl
    clear hl
    go_enter Tryz.func19, Tryz.ntmps19
    go_wp2_with go_skip
    go_loopw [5] (fun iv wr => ∃ j : Nat, j ≤ K1.length ∧ iv = .int .i64 (j : Int) ∧ K1.take j = K2.take j ∧ Below w.heap.size w wr) (fun iv _ => K1.length - (intOf iv).toNat)
    case atStart => exact ⟨0, Nat.zero_le _, rfl, rfl, Below.refl _ _⟩
    case round =>
      rename_i wr
      obtain ⟨j, hj, rfl, he, hb⟩ := hrel
      have HB := Lib.hid hb
      have HE := Lib.hid he
      clear hb he
      by_cases hlt : j < K1.length
      · have hltb : decide ((j : Int) < K1.length) = true := by simp; omega
        obtain ⟨s1, e1⟩ : ∃ s, K1[j]? = some s := ⟨_, List.getElem?_eq_getElem hlt⟩
        obtain ⟨s2, e2⟩ : ∃ s, K2[j]? = some s := ⟨_, List.getElem?_eq_getElem (by have := HLn.out; omega)⟩
        obtain ⟨a1, l1⟩ := H1.out.a (by omega)
        obtain ⟨a2, l2⟩ := H2.out.a (by have := HLn.out; omega)
        subst a1 a2
        have k1 := cell_regrown ((HB.out.cell (p := ⟨g1, j, none⟩) l1).trans (H1.out.c j s1 e1))
        have k2 := cell_regrown ((HB.out.cell (p := ⟨g2, j, none⟩) l2).trans (H2.out.c j s2 e2))
        have hlt2 : j < K2.length := by have := HLn.out; omega
        have hJ : Hid (s1 = s2 → K1.take (j + 1) = K2.take (j + 1)) := Lib.hid fun h => by rw [List.take_add_one, List.take_add_one, e1, e2, h, HE.out]
        have hD : Hid (s1 ≠ s2 → K1 ≠ K2) := Lib.hid fun h hK => by subst hK; rw [e1] at e2; exact h (Option.some.inj e2)
        clear e1 e2
        by_cases hs : s1 = s2
        · subst hs
          go_wp2_with go_skip
          refine wp_region_quiet_below (by kernel_rfl) (by kernel_rfl) ?_
          repeat (first | (quiet_step (fail)))
          refine wpQuiet_nil ?_; rintro wq ⟨⟨dq, osq⟩, rfl⟩; have hbq := below_regrown wr dq osq; generalize Go.Sort.grow (redrawn wr dq) osq = wq at *
          have HQ := Lib.hid (HB.out.trans (hbq.mono HB.out.size))
          clear hbq k1 k2
          go_wp2_with go_skip
          go_roundw
          case rel => exact ⟨j + 1, by omega, by go_num, hJ.out trivial, HQ.out⟩
          case measure => simp [intOf]; omega
        · have hne : ((kb s1).toList == (kb s2).toList) = false := by
            rw [beq_eq_false_iff_ne]
            intro h
            exact hs (kb_inj (ba_eq h))
          have hfin := Lib.hid (hD.out hs)
          go_wp2_with go_skip
          refine wp_region_quiet_below (by kernel_rfl) (by kernel_rfl) ?_
          repeat (first | (quiet_step (fail)))
          refine wpQuiet_nil ?_; rintro wq ⟨⟨dq, osq⟩, rfl⟩; have hbq := below_regrown wr dq osq; generalize Go.Sort.grow (redrawn wr dq) osq = wq at *
          have HQ := Lib.hid (HB.out.trans (hbq.mono HB.out.size))
          clear hbq k1 k2
          go_wp2_with go_skip
          go_ret
          exact ⟨ret_bool (decide_eq_false hfin.out).symm, HQ.out⟩
      · have hge : decide ((j : Int) < K1.length) = false := by simp; omega
        have hfin : Hid (K1 = K2) := Lib.hid (by have := HE.out; have hq := HLn.out; rwa [List.take_of_length_le (by omega), List.take_of_length_le (by omega)] at this)
        go_wp2_with go_skip
        go_ret
        exact ⟨ret_bool (decide_eq_true hfin.out).symm, HB.out⟩
  · have hlb : (((K1.length : Nat) : Int) != ((K2.length : Nat) : Int)) = true := by simp; omega
    have hfin : Hid (K1 ≠ K2) := Lib.hid (fun h => hl (congrArg List.length h))
    go_enter Tryz.func19, Tryz.ntmps19
    go_wp2_with go_skip
    go_ret
    exact ⟨ret_bool (decide_eq_false hfin.out).symm, Below.refl _ _⟩
end Go.Proofs.YteplcnpmdjdlkaaGreatDoor
namespace Go.Proofs.YteplcnpmdjdlkaaGreatDoor
open Go.RowKit Go.Sort Go.Maps
set_option linter.unusedVariables false
set_option linter.unusedSimpArgs false
theorem word_key (x : WordV) : x.op.o.key = x.key := by unfold WordV.op; split <;> rfl
theorem word_T (x : WordV) : x.op.o.T = x.T := by unfold WordV.op; split <;> rfl
theorem word_R (x : WordV) : x.op.o.R = x.R := by unfold WordV.op; split <;> rfl
theorem word_K (x : WordV) : (x.op.o.K == 1 || x.op.o.K == 2) = true := by unfold WordV.op; split <;> rfl
theorem after_iff (a b : OpV) : afterB a b = true ↔ b.T < a.T ∨ a.T = b.T ∧ b.R < a.R := by unfold afterB; simp
theorem after_no (a b : OpV) : afterB a b = false ↔ ¬ (b.T < a.T ∨ a.T = b.T ∧ b.R < a.R) := by unfold afterB; simp
theorem after_same {a b c : OT} (h : OT.Same b c) : afterB a.o c.o = afterB a.o b.o := by unfold afterB; rw [h.T, h.R]
/-- What a map holds behind these words. -/
structure Holds (S : List WordV) (l : Wd) : Prop where
  no : ∀ k, assoc l k = none → ∀ x ∈ S, x.op.good = true → x.key ≠ k
  is : ∀ k y, assoc l k = some y → ∃ x ∈ S, x.op.good = true ∧ x.key = k ∧ OT.Same x.op y ∧ ∀ z ∈ S, z.op.good = true → z.key = k → afterB z.op.o x.op.o = false
theorem Holds.nil : Holds [] [] := ⟨fun k _ x hx => absurd hx (List.not_mem_nil), fun k y h => by simp [assoc] at h⟩
theorem Holds.step {S : List WordV} {l l2 : Wd} {x : WordV} {r : Bool} (h : Holds S l) (ha : Applied x.op l r l2) : Holds (S ++ [x]) l2 := by
  obtain ⟨_, h2⟩ := ha
  cases hacc : accB x.op l with
  | true =>
    rw [hacc, if_pos rfl] at h2
    obtain ⟨y, hy, hs, rfl⟩ := h2
    unfold accB at hacc
    rw [word_K, Bool.true_and, Bool.and_eq_true] at hacc
    obtain ⟨hg, hm⟩ := hacc
    rw [word_key] at hm ⊢
    refine ⟨fun k hk z hz hzg => ?_, fun k q hk => ?_⟩
    · rw [assoc_put] at hk
      split at hk
      · cases hk
      · rename_i hne
        rcases List.mem_append.1 hz with hz | hz
        · exact h.no k hk z hz hzg
        · obtain rfl := List.mem_singleton.1 hz
          exact hne
    · rw [assoc_put] at hk
      split at hk
      · rename_i he
        subst he
        obtain rfl := Option.some.inj hk
        refine ⟨x, by simp, hg, rfl, hs, fun z hz hzg hzk => ?_⟩
        rcases List.mem_append.1 hz with hz | hz
        · cases hq : assoc l x.key with
          | none => exact absurd hzk (h.no _ hq z hz hzg)
          | some q =>
            rw [hq] at hm
            obtain ⟨x0, _, _, _, hs0, hmax⟩ := h.is _ _ hq
            have h1 := hmax z hz hzg hzk
            have h2 : afterB x.op.o x0.op.o = true := by rw [← after_same hs0]; exact hm
            rw [after_no] at h1 ⊢
            rw [after_iff] at h2
            omega
        · obtain rfl := List.mem_singleton.1 hz
          rw [after_no]; omega
      · rename_i hne
        obtain ⟨x0, hx0, hg0, hk0, hs0, hmax⟩ := h.is k q hk
        refine ⟨x0, List.mem_append_left _ hx0, hg0, hk0, hs0, fun z hz hzg hzk => ?_⟩
        rcases List.mem_append.1 hz with hz | hz
        · exact hmax z hz hzg hzk
        · obtain rfl := List.mem_singleton.1 hz
          exact absurd hzk hne
  | false =>
    rw [hacc] at h2
    have h2 : l2 = l := by simpa using h2
    subst h2
    unfold accB at hacc
    rw [word_K, Bool.true_and, word_key] at hacc
    refine ⟨fun k hk z hz hzg => ?_, fun k q hk => ?_⟩
    · rcases List.mem_append.1 hz with hz | hz
      · exact h.no k hk z hz hzg
      · obtain rfl := List.mem_singleton.1 hz
        intro he
        subst he
        rw [hk, hzg] at hacc
        cases hacc
    · obtain ⟨x0, hx0, hg0, hk0, hs0, hmax⟩ := h.is k q hk
      refine ⟨x0, List.mem_append_left _ hx0, hg0, hk0, hs0, fun z hz hzg hzk => ?_⟩
      rcases List.mem_append.1 hz with hz | hz
      · exact hmax z hz hzg hzk
      · obtain rfl := List.mem_singleton.1 hz
        subst hzk
        rw [hk, hzg] at hacc
        rw [← after_same hs0]
        simpa using hacc
/-- No two of one time and replica. -/
def Parted (L : List WordV) : Prop := ∀ x ∈ L, ∀ y ∈ L, x.R = y.R → x.T = y.T → x = y
/-- Two maps behind the same words hold the same. -/
theorem holds_same {L S S' : List WordV} {la lb : Wd} (hp : Parted L) (ha : Holds S la) (hb : Holds S' lb) (h1 : ∀ x, x ∈ S ↔ x ∈ L) (h2 : ∀ x, x ∈ S' ↔ x ∈ L) (k : ByteArray) :
    (assoc la k = none ∧ assoc lb k = none) ∨ ∃ y z, assoc la k = some y ∧ assoc lb k = some z ∧ OT.Same y z := by
  cases hq : assoc la k with
  | none =>
    cases hr : assoc lb k with
    | none => exact .inl ⟨rfl, rfl⟩
    | some z =>
      obtain ⟨x, hx, hg, hk, _⟩ := hb.is k z hr
      exact absurd hk (ha.no k hq x ((h1 x).2 ((h2 x).1 hx)) hg)
  | some y =>
    obtain ⟨x, hx, hg, hk, hs, hm⟩ := ha.is k y hq
    cases hr : assoc lb k with
    | none => exact absurd hk (hb.no k hr x ((h2 x).2 ((h1 x).1 hx)) hg)
    | some z =>
      obtain ⟨x', hx', hg', hk', hs', hm'⟩ := hb.is k z hr
      have e1 := hm x' ((h1 x').2 ((h2 x').1 hx')) hg' hk'
      have e2 := hm' x ((h2 x).2 ((h1 x).1 hx)) hg hk
      rw [after_no, word_T, word_T, word_R, word_R] at e1 e2
      obtain rfl : x = x' := hp x ((h1 x).1 hx) x' ((h2 x').1 hx') (by omega) (by omega)
      exact .inr ⟨y, z, rfl, rfl, hs.symm.trans hs'⟩
/-- .. so their keys are the same. -/
theorem keys_same {la lb : Wd} (hka : (la.map Prod.fst).Nodup) (hkb : (lb.map Prod.fst).Nodup) (h : ∀ k, (assoc la k = none ∧ assoc lb k = none) ∨ ∃ y z, assoc la k = some y ∧ assoc lb k = some z ∧ OT.Same y z) : keysW la = keysW lb := by
  have hmem : ∀ k, k ∈ la.map Prod.fst ↔ k ∈ lb.map Prod.fst := by
    intro k
    rcases h k with ⟨h1, h2⟩ | ⟨y, z, h1, h2, _⟩
    · exact ⟨fun hk => absurd hk (assoc_none.1 h1), fun hk => absurd hk (assoc_none.1 h2)⟩
    · exact ⟨fun _ => List.mem_map.2 ⟨_, assoc_mem h2, rfl⟩, fun _ => List.mem_map.2 ⟨_, assoc_mem h1, rfl⟩⟩
  have hperm : (la.map Prod.fst).Perm (lb.map Prod.fst) := (List.perm_ext_iff_of_nodup hka hkb).2 hmem
  have hs : sortK la = sortK lb := by
    unfold sortK
    refine mergeSort_of_perm ?_
    have := hperm.map (fun k : ByteArray => k.data.toList)
    simpa [List.map_map, Function.comp_def] using this
  unfold keysW
  rw [hs]
  refine List.filter_congr fun s _ => ?_
  unfold onK
  rcases h (kb s) with ⟨h1, h2⟩ | ⟨y, z, h1, h2, hyz⟩
  · rw [h1, h2]
  · rw [h1, h2]
    show (y.o.K == 1) = (z.o.K == 1)
    rw [hyz.K]
end Go.Proofs.YteplcnpmdjdlkaaGreatDoor
namespace Go.Proofs.YteplcnpmdjdlkaaGreatDoor
open Go.RowKit
set_option linter.unusedVariables false
set_option linter.unusedSimpArgs false
/-- A row of words. -/
structure WsIn (B : Nat) (W : World) (A : Option Addr) (g o : Nat) (L : List WordV) : Prop where
  a : 0 < L.length → A = some ⟨g, o, none⟩ ∧ g < B
  c : ∀ (i : Nat) x, L[i]? = some x → ∀ (j : Nat) v, x.c[j]? = some v → W.cell? ⟨g, o + i * 5 + j, none⟩ = some v
  ok : ∀ x ∈ L, x.Ok
theorem WsIn.move {B : Nat} {W W' : World} {A : Option Addr} {g o : Nat} {L : List WordV} (h : WsIn B W A g o L) (hb : Below B W W') : WsIn B W' A g o L :=
  ⟨h.a, fun i x hx j v hv => by
    have h0 : 0 < L.length := by have := (List.getElem?_eq_some_iff.1 hx).1; omega
    exact (hb.cell (p := ⟨g, o + i * 5 + j, none⟩) (h.a h0).2).trans (h.c i x hx j v hv), h.ok⟩
theorem WsIn.up {B B' : Nat} {W : World} {A : Option Addr} {g o : Nat} {L : List WordV} (h : WsIn B W A g o L) (hb : B ≤ B') : WsIn B' W A g o L := ⟨fun h0 => ⟨(h.a h0).1, Nat.lt_of_lt_of_le (h.a h0).2 hb⟩, h.c, h.ok⟩
theorem word_info (x : WordV) : (Tryz.prog.info? 39).map (·.size) = some x.c.size := by
  show _ = some 5
  kernel_rfl
theorem info5w : (Tryz.prog.info? 39).map (·.size) = some 5 := by kernel_rfl
theorem WsIn.ix {B : Nat} {W : World} {A : Option Addr} {g o : Nat} {L : List WordV} (h : WsIn B W A g o L) {i : Nat} (hi : i < L.length) (c : Nat) (V : World) : (Instr.indexAt 45 (.slice A L.length c) (.int .i64 (i : Int))).run Tryz.prog V = .ok (.pointer (some ⟨g, o + i * 5, none⟩)) V :=
  run_index_row (P := Tryz.prog) 45 39 Tryz.underlying45 5 info5w (h.a (by omega)).1 hi c V
/-- A row of whole numbers. -/
structure NsIn (B : Nat) (W : World) (A : Option Addr) (g o : Nat) (L : List Int) : Prop where
  a : 0 < L.length → A = some ⟨g, o, none⟩ ∧ g < B
  c : ∀ (i : Nat) n, L[i]? = some n → W.cell? ⟨g, o + i, none⟩ = some (.int .i64 n)
theorem NsIn.move {B : Nat} {W W' : World} {A : Option Addr} {g o : Nat} {L : List Int} (h : NsIn B W A g o L) (hb : Below B W W') : NsIn B W' A g o L :=
  ⟨h.a, fun i n hn => by
    have h0 : 0 < L.length := by have := (List.getElem?_eq_some_iff.1 hn).1; omega
    exact (hb.cell (p := ⟨g, o + i, none⟩) (h.a h0).2).trans (h.c i n hn)⟩
theorem info1n : (Tryz.prog.info? 3).map (·.size) = some 1 := by kernel_rfl
theorem NsIn.ix {B : Nat} {W : World} {A : Option Addr} {g o : Nat} {L : List Int} (h : NsIn B W A g o L) {i : Nat} (hi : i < L.length) (c : Nat) (V : World) : (Instr.indexAt 52 (.slice A L.length c) (.int .i64 (i : Int))).run Tryz.prog V = .ok (.pointer (some ⟨g, o + i, none⟩)) V := by
  have := run_index_row (P := Tryz.prog) 52 3 Tryz.underlying52 1 info1n (h.a (by omega)).1 hi c V
  rwa [Nat.mul_one] at this
theorem applied_len {x : OT} {l l2 : Wd} {r : Bool} (h : Applied x l r l2) : l2.length ≤ l.length + 1 := by
  obtain ⟨_, h⟩ := h
  split at h
  · obtain ⟨y, _, _, rfl⟩ := h
    exact put_len _ _ _
  · rw [h]; omega
/-- A word, applied. -/
theorem apply_word (x : WordV) (l : Wd) (p b : Nat) (w : World) (hw : Vars w) (hx : x.Ok) (hl : WdOk l) (hp : w.heap[p]? = some (headO b)) (hb : w.heap[b]? = some (wordsO l)) :
    Calls Tryz.prog 9 #[.pointer (some ⟨p, 0, none⟩), opv (WordV.op x).o] w fun e w' => ∃ r l2, e = .returned (.bool r) ∧ (Applied (WordV.op x) l r l2 ∧ WdOk l2 ∧ l2.length ≤ l.length + 1) ∧ w'.heap[b]? = some (wordsO l2) ∧ But b w w' :=
  (lApply_any (WordV.op x) l p b w hw ((WordV.op_ok hx).opin _) hl hp hb).mono fun e w' ⟨r, l2, he, ha, hm, hbut⟩ => ⟨r, l2, he, ⟨ha, ha.ok hl (by rw [word_key]; exact hx.key), applied_len ha⟩, hm, hbut⟩
/-- A key, looked up, in a map behind words. -/
theorem same_get {l : Wd} {k : ByteArray} {y : OT} (h : getW l k = some y) : assoc l k = some y ∧ (y.o.K == 1) = true := by
  unfold getW at h
  cases ha : assoc l k with
  | none => rw [ha] at h; cases h
  | some z =>
    rw [ha] at h
    cases hq : (z.o.K == 1) with
    | false => simp [hq] at h
    | true => simp [hq] at h; subst h; exact ⟨rfl, hq⟩
theorem keysW_get {l : Wd} {s : List UInt8} (h : s ∈ keysW l) : ∃ y, getW l (kb s) = some y := by
  unfold keysW at h
  rw [List.mem_filter] at h
  obtain ⟨h1, h2⟩ := h
  obtain ⟨y, hy⟩ := sortK_mem h1
  refine ⟨y, ?_⟩
  unfold onK at h2
  unfold getW
  rw [hy] at h2 ⊢
  have h2 : (y.o.K == 1) = true := h2
  simp [h2]
section
variable {P : Program} {ops : Array Oper} {rest : List Oper} {o : Oper} {a : Act} {w : World} {Q : Exit → Act → World → Prop}
/-- A cell that is known, read. -/
theorem load_one (hwt : Region.wanted o (yielded ops a.tmps) = true) (ty : TypeId) (x : Operand) (ho : o.op = .load ty x) (b i : Nat) (hx : a.eval x = .pointer (some ⟨b, i, none⟩)) (u : Value) (d : TypeDesc) (hc : w.cell? ⟨b, i, none⟩ = some u)
    (hu : P.underlying ty = some d) (hd : (match d with | .struct _ | .array _ _ => false | _ => true) = true) (h : wpList P ops Q rest (a.put o.dst u) w) : wpList P ops Q (o :: rest) a w :=
  BigFrame.wpList_want hwt fun K hK => by
    have hagg : (isAgg ty).run P w = .ok false w := by
      unfold isAgg
      rw [Sem.run_bind, run_underlying hu w]
      cases d <;> simp_all
    have hl : (loadVar ty ⟨b, i, none⟩).run P w = .ok u w := by simp [loadVar, Sem.run_bind, hagg, hc]
    unfold Oper.wp execOp
    simp only [ho, hx, Instr.loadAt, Instr.sureAddr, Sem.run_bind, Sem.run_pure, Result.andThen_ok, hl]
    exact hK _ _ h
end
theorem get_is {l : Wd} {key : ByteArray} {y : OT} {p b : Nat} {w : World} (hy : getW l key = some y) (hk : KSz key) (hl : WdOk l) (hp : w.heap[p]? = some (headO b)) (hb : w.heap[b]? = some (wordsO l)) :
    Calls Tryz.prog 11 #[.pointer (some ⟨p, 0, none⟩), .string key] w fun e w' => ∃ z : OT, e = .returned (.tuple #[opv z.o, .bool true]) ∧ OT.Ok z ∧ OT.Same y z ∧ Below w.heap.size w w' := by
  have h := lGet_any l key p b w hk hl hp hb
  rw [hy] at h
  exact h
end Go.Proofs.YteplcnpmdjdlkaaGreatDoor
