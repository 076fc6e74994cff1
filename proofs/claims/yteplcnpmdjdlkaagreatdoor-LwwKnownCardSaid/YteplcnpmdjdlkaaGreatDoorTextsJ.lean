/-
  The reference's Texts: are two rows of texts alike? No condition.
-/
import Derived.Test.YteplcnpmdjdlkaaGreatDoorLwwKJ
namespace Go.Proofs.YteplcnpmdjdlkaaGreatDoor
open Go.RowKit Go.Sort
set_option linter.unusedVariables false
set_option linter.unusedSimpArgs false
set_option linter.unusedSectionVars false
/-- A row of texts. -/
structure SIn (w : World) (A : Option Addr) (g : Nat) (K : List (List UInt8)) : Prop where
  a : 0 < K.length → A = some ⟨g, 0, none⟩ ∧ g < w.heap.size
  c : ∀ (j : Nat) s, K[j]? = some s → w.cell? ⟨g, j, none⟩ = some (.string (kb s))
theorem SIn.move {w w' : World} {A : Option Addr} {g : Nat} {K : List (List UInt8)} (h : SIn w A g K) (hb : Below w.heap.size w w') : SIn w' A g K :=
  ⟨fun h0 => ⟨(h.a h0).1, Nat.lt_of_lt_of_le (h.a h0).2 hb.size⟩, fun j s hs => by
    have h0 : 0 < K.length := by have := (List.getElem?_eq_some_iff.1 hs).1; omega
    exact (hb.cell (p := ⟨g, j, none⟩) (h.a h0).2).trans (h.c j s hs)⟩
theorem sin_of_row {w : World} {base n : Nat} {v : Value} {K : List (List UInt8)} {e : TypeId} (h : w.ownsRow base e 1 v n (K.map encStr)) (hn : n = K.length) : ∃ A g c, v = .slice A n c ∧ SIn w A g K := by
  obtain ⟨A, g, c, rfl, hA⟩ := row_slice h
  exact ⟨A, g, c, rfl, fun h0 => ⟨(hA (by omega)).1, (hA (by omega)).2.2.1⟩, fun j s hs => (hA (by have := (List.getElem?_eq_some_iff.1 hs).1; omega)).2.2.2 j _ (by rw [List.getElem?_map, hs]; rfl)⟩
theorem kb_inj {a b : List UInt8} (h : kb a = kb b) : a = b := by
  have := congrArg (fun x => x.data.toList) h
  simpa [kb] using this
set_option maxRecDepth 100000 in
set_option maxHeartbeats 1000000 in
theorem texts_any (A1 A2 : Option Addr) (g1 g2 c1 c2 : Nat) (K1 K2 : List (List UInt8)) (w : World) (h1 : SIn w A1 g1 K1) (h2 : SIn w A2 g2 K2) (hn1 : K1.length ≤ 1000000) (hn2 : K2.length ≤ 1000000) :
    Calls Tryz.prog 19 #[.slice A1 K1.length c1, .slice A2 K2.length c2] w fun e w' => e = .returned (.bool (decide (K1 = K2))) ∧ Below w.heap.size w w' := by
  have H1 := Lib.hid h1
  have H2 := Lib.hid h2
  clear h1 h2
  by_cases hl : K1.length = K2.length
  · have hlb : (((K1.length : Nat) : Int) != ((K2.length : Nat) : Int)) = false := by rw [hl]; simp
    have HLn := Lib.hid hl
    clear hl
    go_enter Tryz.func19, Tryz.ntmps19
    go_wp2_with go_skip
    go_loopw [5] (fun iv wr => ∃ j : Nat, j ≤ K1.length ∧ iv = .int .i64 (j : Int) ∧ K1.take j = K2.take j ∧ Below w.heap.size w wr) (fun iv _ => K1.length - (intOf iv).toNat)
    case atStart => exact ⟨0, Nat.zero_le _, rfl, rfl, Below.refl _ _⟩
    case round =>
      rename_i wr
      obtain ⟨j, hj, rfl, he, hb⟩ := hrel
      have HB := Lib.hid hb
      have HE := Lib.hid he
      clear hb he
      by_cases hlt : j < K1.length
      · have hltb : decide ((j : Int) < K1.length) = true := by simp; omega
        obtain ⟨s1, e1⟩ : ∃ s, K1[j]? = some s := ⟨_, List.getElem?_eq_getElem hlt⟩
        obtain ⟨s2, e2⟩ : ∃ s, K2[j]? = some s := ⟨_, List.getElem?_eq_getElem (by have := HLn.out; omega)⟩
        obtain ⟨a1, l1⟩ := H1.out.a (by omega)
        obtain ⟨a2, l2⟩ := H2.out.a (by have := HLn.out; omega)
        subst a1 a2
        have k1 := cell_regrown ((HB.out.cell (p := ⟨g1, j, none⟩) l1).trans (H1.out.c j s1 e1))
        have k2 := cell_regrown ((HB.out.cell (p := ⟨g2, j, none⟩) l2).trans (H2.out.c j s2 e2))
        have hlt2 : j < K2.length := by have := HLn.out; omega
        have hJ : Hid (s1 = s2 → K1.take (j + 1) = K2.take (j + 1)) := Lib.hid fun h => by rw [List.take_add_one, List.take_add_one, e1, e2, h, HE.out]
        have hD : Hid (s1 ≠ s2 → K1 ≠ K2) := Lib.hid fun h hK => by subst hK; rw [e1] at e2; exact h (Option.some.inj e2)
        clear e1 e2
        by_cases hs : s1 = s2
        · subst hs
          go_wp2_with go_skip
          refine wp_region_quiet_below (by kernel_rfl) (by kernel_rfl) ?_
          repeat (first | (quiet_step (fail)))
          refine wpQuiet_nil ?_; rintro wq ⟨⟨dq, osq⟩, rfl⟩; have hbq := below_regrown wr dq osq; generalize Go.Sort.grow (redrawn wr dq) osq = wq at *
          have HQ := Lib.hid (HB.out.trans (hbq.mono HB.out.size))
          clear hbq k1 k2
          go_wp2_with go_skip
          go_roundw
          case rel => exact ⟨j + 1, by omega, by go_num, hJ.out trivial, HQ.out⟩
          case measure => simp [intOf]; omega
        · have hne : ((kb s1).toList == (kb s2).toList) = false := by
            rw [beq_eq_false_iff_ne]
            intro h
            exact hs (kb_inj (ba_eq h))
          have hfin := Lib.hid (hD.out hs)
          go_wp2_with go_skip
          refine wp_region_quiet_below (by kernel_rfl) (by kernel_rfl) ?_
          repeat (first | (quiet_step (fail)))
          refine wpQuiet_nil ?_; rintro wq ⟨⟨dq, osq⟩, rfl⟩; have hbq := below_regrown wr dq osq; generalize Go.Sort.grow (redrawn wr dq) osq = wq at *
          have HQ := Lib.hid (HB.out.trans (hbq.mono HB.out.size))
          clear hbq k1 k2
          go_wp2_with go_skip
          go_ret
          exact ⟨ret_bool (decide_eq_false hfin.out).symm, HQ.out⟩
      · have hge : decide ((j : Int) < K1.length) = false := by simp; omega
        have hfin : Hid (K1 = K2) := Lib.hid (by have := HE.out; have hq := HLn.out; rwa [List.take_of_length_le (by omega), List.take_of_length_le (by omega)] at this)
        go_wp2_with go_skip
        go_ret
        exact ⟨ret_bool (decide_eq_true hfin.out).symm, HB.out⟩
  · have hlb : (((K1.length : Nat) : Int) != ((K2.length : Nat) : Int)) = true := by simp; omega
    have hfin : Hid (K1 ≠ K2) := Lib.hid (fun h => hl (congrArg List.length h))
    go_enter Tryz.func19, Tryz.ntmps19
    go_wp2_with go_skip
    go_ret
    exact ⟨ret_bool (decide_eq_false hfin.out).symm, Below.refl _ _⟩
end Go.Proofs.YteplcnpmdjdlkaaGreatDoor
