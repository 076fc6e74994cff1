/-
  LwwOrder, walked: true. Condition: the library's variables as it lays them.
-/
import Derived.Test.YteplcnpmdjdlkaaGreatDoorLwwWJ
import Derived.Test.YteplcnpmdjdlkaaGreatDoorJ20
import Derived.Test.YteplcnpmdjdlkaaGreatDoorROpSameJ
import Derived.Test.YteplcnpmdjdlkaaGreatDoorJ22
namespace Go.Proofs.YteplcnpmdjdlkaaGreatDoor
open Go.RowKit Go.Sort
set_option linter.unusedVariables false
set_option linter.unusedSimpArgs false
set_option linter.unusedSectionVars false
/-- What the first i words may be. -/
def Apart2 (L : List WordV) (i : Nat) : Prop := ∀ a b x y, a < i → b < i → a ≠ b → L[a]? = some x → L[b]? = some y → ¬ (x.R = y.R ∧ x.T = y.T)
theorem keysW_len (l : Wd) {n : Nat} (h : l.length ≤ n) (hn : n ≤ 1000000 := by decide) : (keysW l).length ≤ 1000000 := by
  unfold keysW
  have := List.length_filter_le (onK l) (sortK l)
  have := sortK_len l (Nat.le_trans h hn)
  omega
theorem lKeys_sl (l : Wd) (p b : Nat) (w : World) (hl : WdOk l) {n : Nat} (hn : l.length ≤ n) (hp : w.heap[p]? = some (headO b)) (hb : w.heap[b]? = some (wordsO l)) (h6 : n ≤ 1000000 := by decide) :
    Calls Tryz.prog 13 #[.pointer (some ⟨p, 0, none⟩)] w fun e w' => ∃ A g c, e = .returned (.slice A (keysW l).length c) ∧ SIn w' A g (keysW l) ∧ Below w.heap.size w w' :=
  (lKeys_any l p b w hl (Nat.le_trans hn h6) hp hb).mono fun e w' ⟨v, he, hrow, hbel⟩ => by
    obtain ⟨A, g, c, rfl, hs⟩ := sin_of_row hrow rfl
    exact ⟨A, g, c, he, hs, hbel⟩
theorem texts_eq {A1 A2 : Option Addr} {g1 g2 c1 c2 : Nat} {K1 K2 : List (List UInt8)} {w : World} (h1 : SIn w A1 g1 K1) (h2 : SIn w A2 g2 K2) (hn1 : K1.length ≤ 1000000) (hn2 : K2.length ≤ 1000000) (he : K1 = K2) :
    Calls Tryz.prog 19 #[.slice A1 K1.length c1, .slice A2 K2.length c2] w fun e w' => e = .returned (.bool true) ∧ Below w.heap.size w w' := by
  have h := texts_any A1 A2 g1 g2 c1 c2 K1 K2 w h1 h2 hn1 hn2
  rw [decide_eq_true he] at h
  exact h
theorem same_is {x y : OT} (hx : OT.Ok x) (hy : OT.Ok y) (h : OT.Same x y) (w : World) : Calls Tryz.prog 17 #[opv x.o, opv y.o] w fun e w' => e = .returned (.bool true) ∧ Below w.heap.size w w' := by
  have h1 := roSame_any x.o y.o x.t y.t w hx.seen hy.seen hx.vc hy.vc (hx.tin _ _) (hy.tin _ _)
  rw [show sameO x.o y.o x.t y.t = true from OT.same_iff.2 h] at h1
  exact h1
theorem drop_more {L : List WordV} {m : Nat} {x : WordV} (h : L[m]? = some x) : L.drop m = x :: L.drop (m + 1) := by
  obtain ⟨hm, rfl⟩ := List.getElem?_eq_some_iff.1 h
  exact List.drop_eq_getElem_cons hm
theorem parted_of {L : List WordV} (h : Apart2 L L.length) : Parted L := by
  intro x hx y hy hR hT
  obtain ⟨a, ha⟩ := List.getElem?_of_mem hx
  obtain ⟨b, hb⟩ := List.getElem?_of_mem hy
  by_cases hab : a = b
  · subst hab; exact Option.some.inj (ha.symm.trans hb)
  · exact absurd ⟨hR, hT⟩ (h a b x y (List.getElem?_eq_some_iff.1 ha).1 (List.getElem?_eq_some_iff.1 hb).1 hab ha hb)
section
variable (A1 : Option Addr) (g1 o1 c1 : Nat) (L : List WordV) (A2 : Option Addr) (g2 o2 c2 : Nat) (N : List Int) (w : World) (hw : Vars w) (hL : WsIn w.heap.size w A1 g1 o1 L) (hN : NsIn w.heap.size w A2 g2 o2 N)
include hw hL hN
set_option maxRecDepth 100000 in
set_option maxHeartbeats 4000000 in
theorem order_go (h20 : L.length ≤ 20) (h40 : N.length ≤ 40) : Calls Tryz.prog 5 #[.slice A1 L.length c1, .slice A2 N.length c2] w fun e w' => e = .returned (.bool true) ∧ Below w.heap.size w w' := by
  have HV := Lib.hid hw
  have HL := Lib.hid hL
  have HN := Lib.hid hN
  have d1 : decide ((20 : Int) < L.length) = false := by simp; omega
  have d2 : decide ((40 : Int) < N.length) = false := by simp; omega
  have hS := Boxes.start w
  clear hw hL hN
  go_enter Tryz.func5, Tryz.ntmps5
  go_wp2_with (first | go_skip | (go_at_call 7; (with_reducible (refine (awake22_any _ (HV.out.step hS.below)).mono ?_)); rintro e wn ⟨rfl, hbn⟩; have hS1 := hS.step hbn; clear hS hbn; have hS := hS1; clear hS1))
  rename World => w1
  have B1 := Lib.hid hS.below
  clear hS
  go_loopw [5] (fun iv wr => ∃ i : Nat, i ≤ L.length ∧ iv = .int .i64 (i : Int) ∧ Apart2 L i ∧ Below w.heap.size w wr) (fun iv _ => L.length - (intOf iv).toNat)
  case atStart => exact ⟨0, Nat.zero_le _, rfl, fun a b x y ha => absurd ha (Nat.not_lt_zero a), B1.out⟩
  case round =>
    rename World => wr
    obtain ⟨i, hi, rfl, hap, hb⟩ := hrel
    have HAP := Lib.hid hap
    have HB := Lib.hid hb
    clear hap hb
    by_cases hlt : i < L.length
    · have hltb : decide ((i : Int) < L.length) = true := by simp; omega
      obtain ⟨x, hx⟩ : ∃ x, L[i]? = some x := ⟨_, List.getElem?_eq_getElem hlt⟩
      have HXx := Lib.hid hx
      have hxo := HL.out.ok x (List.mem_of_getElem? hx)
      have ix := HL.out.ix hlt c1
      have k2 : wr.cell? ⟨g1, o1 + i * 5 + 2, none⟩ = some (.string x.key) := (HL.out.move HB.out).c i x hx 2 _ rfl
      have hks : x.key.size ≤ 9223372036854775807 := hxo.key
      clear hx
      cases hs : (letC x.key == 0)
      · go_wp2_with (first | go_skip | (go_at_call 20; (with_reducible (refine (rstr_any x.key _).mono ?_)); rintro e wn ⟨rfl, hbn⟩; have HB2 := Lib.hid (HB.out.trans (hbn.mono HB.out.size)); clear hbn))
        go_ret
        exact ⟨rfl, HB2.out⟩
      · by_cases h60 : 60 < x.key.size
        · have h60b : decide ((60 : Int) < x.key.size) = true := by simp; omega
          go_wp2_with (first | go_skip | (go_at_call 20; (with_reducible (refine (rstr_any x.key _).mono ?_)); rintro e wn ⟨rfl, hbn⟩; have HB2 := Lib.hid (HB.out.trans (hbn.mono HB.out.size)); clear hbn; have k3 : wn.cell? ⟨g1, o1 + i * 5 + 2, none⟩ = some (.string x.key) := (HL.out.move HB2.out).c i x HXx.out 2 _ rfl))
          go_ret
          exact ⟨rfl, HB2.out⟩
        · have h60b : decide ((60 : Int) < x.key.size) = false := by simp; omega
          go_wp2_with (first | go_skip | (go_at_call 20; (with_reducible (refine (rstr_any x.key _).mono ?_)); rintro e wn ⟨rfl, hbn⟩; have HB2 := Lib.hid (HB.out.trans (hbn.mono HB.out.size)); clear hbn; have k3 : wn.cell? ⟨g1, o1 + i * 5 + 2, none⟩ = some (.string x.key) := (HL.out.move HB2.out).c i x HXx.out 2 _ rfl))
          clear k2 k3
          go_loopw [6] (fun kv wq => ∃ k : Nat, k ≤ i ∧ kv = .int .i64 (k : Int) ∧ (∀ a y, a < k → L[a]? = some y → ¬ (y.R = x.R ∧ y.T = x.T)) ∧ Below w.heap.size w wq) (fun kv _ => i - (intOf kv).toNat)
          case atStart => exact ⟨0, Nat.zero_le _, rfl, fun a y ha => absurd ha (Nat.not_lt_zero a), HB2.out⟩
          case round =>
            rename World => wq
            obtain ⟨k, hk, rfl, hnk, hbq⟩ := hrel
            have HNK := Lib.hid hnk
            have HBQ := Lib.hid hbq
            clear hnk hbq HB2
            by_cases hki : k < i
            · have hkib : decide ((k : Int) < i) = true := by simp; omega
              obtain ⟨y, hy⟩ : ∃ y, L[k]? = some y := ⟨_, List.getElem?_eq_getElem (by omega)⟩
              have HYy := Lib.hid hy
              have iy := HL.out.ix (show k < L.length by omega) c1
              have q0 := cell_regrown (show wq.cell? ⟨g1, o1 + k * 5, none⟩ = some (.int .i64 y.R) from (HL.out.move HBQ.out).c k y hy 0 _ rfl)
              have q1 := cell_regrown (show wq.cell? ⟨g1, o1 + k * 5 + 1, none⟩ = some (.int .i64 y.T) from (HL.out.move HBQ.out).c k y hy 1 _ rfl)
              have p0 := cell_regrown (show wq.cell? ⟨g1, o1 + i * 5, none⟩ = some (.int .i64 x.R) from (HL.out.move HBQ.out).c i x HXx.out 0 _ rfl)
              have p1 := cell_regrown (show wq.cell? ⟨g1, o1 + i * 5 + 1, none⟩ = some (.int .i64 x.T) from (HL.out.move HBQ.out).c i x HXx.out 1 _ rfl)
              clear hy
              cases hR : (y.R == x.R)
              · go_wp2_with go_skip
                refine wp_region_quiet_below (by kernel_rfl) (by kernel_rfl) ?_
                repeat (first | go_big_quiet_skip | (quiet_step (fail)))
                refine wpQuiet_nil ?_; rintro wz ⟨⟨dq, osq⟩, rfl⟩; have hbz := below_regrown wq dq osq; generalize Go.Sort.grow (redrawn wq dq) osq = wz at *
                have HZ := Lib.hid (HBQ.out.trans (hbz.mono HBQ.out.size))
                clear hbz q0 q1 p0 p1
                go_wp2_with go_skip
                go_roundw
                case rel => exact ⟨k + 1, by omega, by go_num, fun a z ha hz => by rcases (show a < k ∨ a = k by omega) with h | h; exact HNK.out a z h hz; subst h; obtain rfl := Option.some.inj (HYy.out.symm.trans hz); intro hc; rw [hc.1] at hR; simp at hR, HZ.out⟩
                case measure => simp [intOf]; omega
              · cases hT : (y.T == x.T)
                · go_wp2_with go_skip
                  refine wp_region_quiet_below (by kernel_rfl) (by kernel_rfl) ?_
                  repeat (first | go_big_quiet_skip | (quiet_step (fail)))
                  refine wpQuiet_nil ?_; rintro wz ⟨⟨dq, osq⟩, rfl⟩; have hbz := below_regrown wq dq osq; generalize Go.Sort.grow (redrawn wq dq) osq = wz at *
                  have HZ := Lib.hid (HBQ.out.trans (hbz.mono HBQ.out.size))
                  clear hbz q0 q1 p0 p1
                  go_wp2_with go_skip
                  go_roundw
                  case rel => exact ⟨k + 1, by omega, by go_num, fun a z ha hz => by rcases (show a < k ∨ a = k by omega) with h | h; exact HNK.out a z h hz; subst h; obtain rfl := Option.some.inj (HYy.out.symm.trans hz); intro hc; rw [hc.2] at hT; simp at hT, HZ.out⟩
                  case measure => simp [intOf]; omega
                · go_wp2_with go_skip
                  refine wp_region_quiet_below (by kernel_rfl) (by kernel_rfl) ?_
                  repeat (first | go_big_quiet_skip | (quiet_step (fail)))
                  refine wpQuiet_nil ?_; rintro wz ⟨⟨dq, osq⟩, rfl⟩; have hbz := below_regrown wq dq osq; generalize Go.Sort.grow (redrawn wq dq) osq = wz at *
                  have HZ := Lib.hid (HBQ.out.trans (hbz.mono HBQ.out.size))
                  clear hbz q0 q1 p0 p1
                  go_wp2_with go_skip
                  go_ret
                  exact ⟨rfl, HZ.out⟩
            · have hkib : decide ((k : Int) < i) = false := by simp; omega
              obtain rfl : k = i := by omega
              go_wp2_with go_skip
              go_roundw
              case rel =>
                refine ⟨k + 1, by omega, by go_num, ?_, HBQ.out⟩
                intro a b u v ha hb hab hu hv hc
                rcases (show a < k ∨ a = k by omega) with h1 | h1
                · rcases (show b < k ∨ b = k by omega) with h2 | h2
                  · exact HAP.out a b u v h1 h2 hab hu hv hc
                  · subst h2; obtain rfl := Option.some.inj (HXx.out.symm.trans hv); exact HNK.out a u h1 hu hc
                · subst h1; obtain rfl := Option.some.inj (HXx.out.symm.trans hu); exact HNK.out b v (by omega) hv ⟨hc.1.symm, hc.2.symm⟩
              case measure => simp [intOf]; omega
    · have hge : decide ((i : Int) < L.length) = false := by simp; omega
      obtain rfl : i = L.length := by omega
      have HP := Lib.hid (parted_of HAP.out)
      have hS := Boxes.start wr
      have HW := HB
      clear HAP B1 HB
      go_wp2_with (first | go_skip | (go_at_call 8; (with_reducible (refine (lNew_any _).mono ?_)); rintro e wn ⟨p, b, rfl, hbx⟩; have hS1 := hS.app hbx; simp only [List.nil_append, List.cons_append] at hS1; clear hS hbx; have hS := hS1; clear hS1))
      rename World => w3
      rename_i pa ba _ _
      go_loopw [9] (fun iv wz => ∃ (j : Nat) (la : Wd), j ≤ L.length ∧ iv = .int .i64 (j : Int) ∧ (WdOk la ∧ la.length ≤ j ∧ Holds (L.take j) la) ∧ Boxes wr wz [(ba, wordsO la), (pa, headO ba), (b, wordsO []), (p, headO b)]) (fun iv _ => L.length - (intOf iv).toNat)
      case atStart => exact ⟨0, [], Nat.zero_le _, rfl, ⟨WdOk.nil, Nat.le_refl _, Holds.nil⟩, hS⟩
      case round =>
        clear hS
        rename World => wz
        obtain ⟨j, la, hj, rfl, hla, hS⟩ := hrel
        have HA := Lib.hid hla
        clear hla
        by_cases hjl : j < L.length
        · have hjlb : decide ((j : Int) < L.length) = true := by simp; omega
          obtain ⟨x, hx⟩ : ∃ x, L[j]? = some x := ⟨_, List.getElem?_eq_getElem hjl⟩
          have HXx := Lib.hid hx
          have HXo := Lib.hid (HL.out.ok x (List.mem_of_getElem? hx))
          have ix := HL.out.ix hjl c1
          have cX := Lib.hid (fun q v hv => ((HL.out.move HW.out).move (hS.below.mono HW.out.size)).c j x hx q v hv)
          clear hx
          go_wp2_with (first | go_skip | ((with_reducible refine gate_op (op := .load 39 (.tmp 90)) rfl ?_); refine load_cells rfl 39 (.tmp 90) rfl _ _ rfl x.c _ cX.out Tryz.underlying39 rfl (word_info x) ?_) | (go_at_call 10; (with_reducible (refine (wOp_any x _).mono ?_)); rintro e wn ⟨rfl, hbn⟩; have hS1 := hS.step hbn; clear hS hbn; have hS := hS1; clear hS1) | (go_at_call 9; have q0 := hS.at_ 0 rfl; have q1 := hS.at_ (0 + 1) rfl; (with_reducible (refine (apply_word x la pa ba _ (HV.out.step (HW.out.trans (hS.below.mono HW.out.size))) HXo.out HA.out.1 q1 q0).mono ?_)); clear q0 q1; rintro e wn ⟨r, l2, rfl, hz, hgn, hbut⟩; have HZ := Lib.hid hz; have hS1 := hS.turn 0 rfl hbut hgn; clear hS hgn hbut hz; simp only [List.set_cons_zero, List.set_cons_succ] at hS1; have hS := hS1; clear hS1))
          go_roundw
          case rel => exact ⟨j + 1, l2, by omega, by go_num, ⟨HZ.out.2.1, by have := HZ.out.2.2; have := HA.out.2.1; omega, by have := HA.out.2.2.step HZ.out.1; rwa [List.take_add_one, HXx.out]⟩, hS⟩
          case measure => simp [intOf]; omega
        · have hjlb : decide ((j : Int) < L.length) = false := by simp; omega
          obtain rfl : j = L.length := by omega
          have HAL := Lib.hid (show WdOk la ∧ la.length ≤ 20 ∧ Holds L la by have := HA.out.2.2; rw [List.take_length] at this; exact ⟨HA.out.1, by have := HA.out.2.1; omega, this⟩)
          clear HA
          go_wp2_with go_skip
          go_loopw [10] (fun iv wz => ∃ (j : Nat) (lb : Wd) (S : List WordV), j ≤ N.length ∧ iv = .int .i64 (j : Int) ∧ (WdOk lb ∧ lb.length ≤ j ∧ Holds S lb ∧ ∀ x ∈ S, x ∈ L) ∧ Boxes wr wz [(ba, wordsO la), (pa, headO ba), (b, wordsO lb), (p, headO b)]) (fun iv _ => N.length - (intOf iv).toNat)
          case atStart => exact ⟨0, [], [], Nat.zero_le _, rfl, ⟨WdOk.nil, Nat.le_refl _, Holds.nil, fun x hx => by cases hx⟩, hS⟩
          case round =>
            clear hS
            rename World => wz
            obtain ⟨j, lb, S, hj, rfl, hlb, hS⟩ := hrel
            have HB := Lib.hid hlb
            clear hlb
            by_cases hjn : j < N.length
            · have hjnb : decide ((j : Int) < N.length) = true := by simp; omega
              obtain ⟨n, hn⟩ : ∃ n, N[j]? = some n := ⟨_, List.getElem?_eq_getElem hjn⟩
              have jx := HN.out.ix hjn c2
              have n1 : wz.cell? ⟨g2, o2 + j, none⟩ = some (.int .i64 n) := ((HN.out.move HW.out).move (hS.below.mono HW.out.size)).c j n hn
              clear hn
              by_cases h0 : 0 ≤ n
              · have h0b : decide (0 ≤ n) = true := by simpa using h0
                obtain ⟨m, rfl⟩ := Int.eq_ofNat_of_zero_le h0
                by_cases hm : m < L.length
                · have hmb : decide ((m : Int) < L.length) = true := by simp; omega
                  obtain ⟨x, hx⟩ : ∃ x, L[m]? = some x := ⟨_, List.getElem?_eq_getElem hm⟩
                  have HXx := Lib.hid hx
                  have HXo := Lib.hid (HL.out.ok x (List.mem_of_getElem? hx))
                  have ix := HL.out.ix hm c1
                  have cX := Lib.hid (fun q v hv => ((HL.out.move HW.out).move (hS.below.mono HW.out.size)).c m x hx q v hv)
                  clear hx h0
                  go_wp2_with (first | go_skip | ((with_reducible refine gate_op (op := .load 39 (.tmp 120)) rfl ?_); refine load_cells rfl 39 (.tmp 120) rfl _ _ rfl x.c _ cX.out Tryz.underlying39 rfl (word_info x) ?_) | (go_at_call 10; (with_reducible (refine (wOp_any x _).mono ?_)); rintro e wn ⟨rfl, hbn⟩; have hS1 := hS.step hbn; clear hS hbn; have hS := hS1; clear hS1) | (go_at_call 9; have q0 := hS.at_ 2 rfl; have q1 := hS.at_ (2 + 1) rfl; (with_reducible (refine (apply_word x lb p b _ (HV.out.step (HW.out.trans (hS.below.mono HW.out.size))) HXo.out HB.out.1 q1 q0).mono ?_)); clear q0 q1; rintro e wn ⟨r, l2, rfl, hz, hgn, hbut⟩; have HZ := Lib.hid hz; have hS1 := hS.turn 2 rfl hbut hgn; clear hS hgn hbut hz; simp only [List.set_cons_zero, List.set_cons_succ] at hS1; have hS := hS1; clear hS1))
                  go_roundw
                  case rel => exact ⟨j + 1, l2, S ++ [x], by omega, by go_num, ⟨HZ.out.2.1, by have := HZ.out.2.2; have := HB.out.2.1; omega, HB.out.2.2.1.step HZ.out.1, fun y hy => by rcases List.mem_append.1 hy with hy | hy; exact HB.out.2.2.2 y hy; rw [List.mem_singleton.1 hy]; exact List.mem_of_getElem? HXx.out⟩, hS⟩
                  case measure => simp [intOf]; omega
                · have hmb : decide ((m : Int) < L.length) = false := by simp; omega
                  clear h0
                  go_wp2_with go_skip
                  go_roundw
                  case rel => exact ⟨j + 1, lb, S, by omega, by go_num, ⟨HB.out.1, by have := HB.out.2.1; omega, HB.out.2.2⟩, hS⟩
                  case measure => simp [intOf]; omega
              · have h0b : decide (0 ≤ n) = false := by simpa using h0
                clear h0
                go_wp2_with go_skip
                go_roundw
                case rel => exact ⟨j + 1, lb, S, by omega, by go_num, ⟨HB.out.1, by have := HB.out.2.1; omega, HB.out.2.2⟩, hS⟩
                case measure => simp [intOf]; omega
            · have hjnb : decide ((j : Int) < N.length) = false := by simp; omega
              have HB0 := Lib.hid (show WdOk lb ∧ lb.length ≤ 40 ∧ Holds S lb ∧ ∀ x ∈ S, x ∈ L from ⟨HB.out.1, by have := HB.out.2.1; omega, HB.out.2.2⟩)
              clear HB
              go_wp2_with go_skip
              go_loopw [11] (fun iv wz => ∃ (k : Nat) (lb : Wd) (S : List WordV), k ≤ L.length ∧ iv = .int .i64 ((k : Int) - 1) ∧ (WdOk lb ∧ lb.length + k ≤ 60 ∧ Holds S lb ∧ (∀ x ∈ S, x ∈ L) ∧ ∀ x ∈ L.drop k, x ∈ S) ∧ Boxes wr wz [(ba, wordsO la), (pa, headO ba), (b, wordsO lb), (p, headO b)]) (fun iv _ => (intOf iv + 1).toNat)
              case atStart => exact ⟨L.length, lb, S, Nat.le_refl _, rfl, ⟨HB0.out.1, by have := HB0.out.2.1; omega, HB0.out.2.2.1, HB0.out.2.2.2, fun x hx => by rw [List.drop_length] at hx; cases hx⟩, hS⟩
              case round =>
                clear hS HB0
                rename World => wz
                obtain ⟨k, lb, S, hk, rfl, hlb, hS⟩ := hrel
                have HB := Lib.hid hlb
                clear hlb
                rcases Nat.eq_zero_or_pos k with h0 | h0
                · subst h0
                  have HF := Lib.hid (show WdOk lb ∧ lb.length ≤ 60 ∧ keysW la = keysW lb ∧ (∀ k, (assoc la k = none ∧ assoc lb k = none) ∨ ∃ y z, assoc la k = some y ∧ assoc lb k = some z ∧ OT.Same y z) by
                    have hs := holds_same HP.out HAL.out.2.2 HB.out.2.2.1 (fun x => Iff.rfl) (fun x => ⟨HB.out.2.2.2.1 x, HB.out.2.2.2.2 x⟩)
                    exact ⟨HB.out.1, by have := HB.out.2.1; omega, keys_same HAL.out.1.keys.nodup HB.out.1.keys.nodup hs, hs⟩)
                  clear HB
                  go_wp2_with go_skip
                  go_upto_region 31 with (first | go_skip | (go_at_call 13; have q0 := hS.at_ 0 rfl; have q1 := hS.at_ (0 + 1) rfl; (with_reducible (refine (lKeys_sl la pa ba _ HAL.out.1 HAL.out.2.1 q1 q0).mono ?_)); clear q0 q1; rintro e wn ⟨A, g, c, rfl, hs, hbn⟩; (try have HKa1 := Lib.hid (HKa.out.move hbn)); (try clear HKa); (try have HKa := HKa1); (try clear HKa1); have HKa := Lib.hid hs; clear hs; have hS1 := hS.step hbn; clear hS hbn; have hS := hS1; clear hS1) | (go_at_call 13; have q0 := hS.at_ 2 rfl; have q1 := hS.at_ (2 + 1) rfl; (with_reducible (refine (lKeys_sl lb p b _ HF.out.1 HF.out.2.1 q1 q0).mono ?_)); clear q0 q1; rintro e wn ⟨A, g, c, rfl, hs, hbn⟩; (try have HKa1 := Lib.hid (HKa.out.move hbn)); (try clear HKa); (try have HKa := HKa1); (try clear HKa1); have HKb := Lib.hid hs; clear hs; have hS1 := hS.step hbn; clear hS hbn; have hS := hS1; clear hS1) | (go_at_call 19; refine (texts_eq HKa.out HKb.out (keysW_len _ HAL.out.2.1) (keysW_len _ HF.out.2.1) HF.out.2.2.1).mono ?_; rintro e wn ⟨rfl, hbn⟩; have hS1 := hS.step hbn; clear hS hbn; have hS := hS1; clear hS1))
                  clear HKa HKb
                  go_wp2_with (first | go_skip | (go_at_call 13; have q0 := hS.at_ 0 rfl; have q1 := hS.at_ (0 + 1) rfl; (with_reducible (refine (lKeys_sl la pa ba _ HAL.out.1 HAL.out.2.1 q1 q0).mono ?_)); clear q0 q1; rintro e wn ⟨A, g, c, rfl, hs, hbn⟩; (try have HKa1 := Lib.hid (HKa.out.move hbn)); (try clear HKa); (try have HKa := HKa1); (try clear HKa1); have HKc := Lib.hid hs; clear hs; have hS1 := hS.step hbn; clear hS hbn; have hS := hS1; clear hS1))
                  rename World => w6
                  rename_i A g c _ _
                  have HS6 := Lib.hid hS
                  clear hS
                  go_loopw [13] (fun iv wz => ∃ j : Nat, j ≤ (keysW la).length ∧ iv = .int .i64 (j : Int) ∧ Below w6.heap.size w6 wz) (fun iv _ => (keysW la).length - (intOf iv).toNat)
                  case atStart => exact ⟨0, Nat.zero_le _, rfl, Below.refl _ _⟩
                  case round =>
                    rename World => wz
                    obtain ⟨j, hj, rfl, hbz⟩ := hrel
                    have HBZ := Lib.hid hbz
                    clear hbz
                    have hkl := keysW_len la HAL.out.2.1
                    by_cases hjl : j < (keysW la).length
                    · have hjlb : decide ((j : Int) < (keysW la).length) = true := by simp; omega
                      obtain ⟨s, hs⟩ : ∃ s, (keysW la)[j]? = some s := ⟨_, List.getElem?_eq_getElem hjl⟩
                      obtain ⟨y, hy⟩ := keysW_get (List.mem_of_getElem? hs)
                      obtain ⟨y', hy', hyy⟩ : ∃ y', getW lb (kb s) = some y' ∧ OT.Same y y' := by
                        obtain ⟨q1, q2⟩ := same_get hy
                        rcases HF.out.2.2.2 (kb s) with ⟨h1, _⟩ | ⟨u, v, h1, h2, h3⟩
                        · rw [h1] at q1; cases q1
                        · rw [h1] at q1
                          obtain rfl := Option.some.inj q1
                          exact ⟨v, by unfold getW; rw [h2]; simp [← h3.K, q2], h3⟩
                      have hks : KSz (kb s) := HAL.out.1.keys.all _ (assoc_mem (same_get hy).1)
                      obtain ⟨hA, hg⟩ := HKc.out.a (by omega)
                      subst hA
                      have HKK := Lib.hid (fun W (hb : Below w6.heap.size w6 W) => (hb.cell (p := ⟨g, j, none⟩) hg).trans (HKc.out.c j s hs))
                      have HY := Lib.hid hy
                      have HY' := Lib.hid hy'
                      have HYY := Lib.hid hyy
                      have kj : wz.cell? ⟨g, j, none⟩ = some (.string (kb s)) := HKK.out _ HBZ.out
                      have hS := Boxes.start wz
                      clear hs hy hy' hyy hg
                      have P0 := Lib.hid (fun W (hb : Below w6.heap.size w6 W) => (hb.block _ (HS6.out.lt 0 rfl)).trans (HS6.out.at_ 0 rfl))
                      have P1 := Lib.hid (fun W (hb : Below w6.heap.size w6 W) => (hb.block _ (HS6.out.lt 1 rfl)).trans (HS6.out.at_ 1 rfl))
                      have P2 := Lib.hid (fun W (hb : Below w6.heap.size w6 W) => (hb.block _ (HS6.out.lt 2 rfl)).trans (HS6.out.at_ 2 rfl))
                      have P3 := Lib.hid (fun W (hb : Below w6.heap.size w6 W) => (hb.block _ (HS6.out.lt 3 rfl)).trans (HS6.out.at_ 3 rfl))
                      go_upto_region 36 with (first | go_skip | (go_at_call 11; (with_reducible (refine (get_is HY.out hks HAL.out.1 (P1.out _ (HBZ.out.trans (hS.below.mono HBZ.out.size))) (P0.out _ (HBZ.out.trans (hS.below.mono HBZ.out.size)))).mono ?_)); rintro e wn ⟨z1, rfl, hz, hsz, hbn⟩; have HZ1 := Lib.hid (And.intro hz hsz); have z1s := hz.seen; clear hz hsz; have hS1 := hS.step hbn; clear hS hbn; have hS := hS1; clear hS1) | ((with_reducible refine gate_op (op := .alloc 36) rfl ?_); refine alloc_arm rfl 36 rfl (op_alloc _) ?_; intro wn hbn hgn; have hS1 := hS.new hbn hgn; (try simp only [List.nil_append, List.cons_append, List.set_cons_zero, List.set_cons_succ] at hS1); clear hS hbn hgn; have hS := hS1; clear hS1) | ((with_reducible refine gate_op (op := .store 36 (.tmp 14) (.tmp 159)) rfl ?_); refine wpList_store_row rfl 36 (.tmp 14) (.tmp 159) rfl _ z1.o.c rfl rfl 36 _ (hS.at_ 0 rfl) (op_info _ z1s) ((OpV.size (o := zeroO) rfl).trans (OpV.size (o := z1.o) z1s).symm) (ot_one HZ1.out.1.vc) ?_; intro wn hbn hgn hon hsn; have hS1 := hS.put 0 rfl hon hbn hgn; (try simp only [List.nil_append, List.cons_append, List.set_cons_zero, List.set_cons_succ] at hS1); clear hS hbn hgn hon hsn; have hS := hS1; clear hS1))
                      go_upto_region 37 with (first | ((with_reducible refine gate_op (op := .load 9 (.tmp 165)) rfl ?_); refine load_one rfl 9 (.tmp 165) rfl g j rfl (.string (kb s)) _ (HKK.out _ (HBZ.out.trans (hS.below.mono HBZ.out.size))) Tryz.underlying9 rfl ?_) | go_skip | (go_at_call 11; (with_reducible (refine (get_is HY'.out hks HF.out.1 (P3.out _ (HBZ.out.trans (hS.below.mono HBZ.out.size))) (P2.out _ (HBZ.out.trans (hS.below.mono HBZ.out.size)))).mono ?_)); rintro e wn ⟨z2, rfl, hz, hsz, hbn⟩; have HZ2 := Lib.hid (And.intro hz hsz); have z2s := hz.seen; clear hz hsz; have hS1 := hS.step hbn; clear hS hbn; have hS := hS1; clear hS1) | ((with_reducible refine gate_op (op := .alloc 36) rfl ?_); refine alloc_arm rfl 36 rfl (op_alloc _) ?_; intro wn hbn hgn; have hS1 := hS.new hbn hgn; (try simp only [List.nil_append, List.cons_append, List.set_cons_zero, List.set_cons_succ] at hS1); clear hS hbn hgn; have hS := hS1; clear hS1) | ((with_reducible refine gate_op (op := .store 36 (.tmp 16) (.tmp 168)) rfl ?_); refine wpList_store_row rfl 36 (.tmp 16) (.tmp 168) rfl _ z2.o.c rfl rfl 36 _ (hS.at_ 1 rfl) (op_info _ z2s) ((OpV.size (o := zeroO) rfl).trans (OpV.size (o := z2.o) z2s).symm) (ot_one HZ2.out.1.vc) ?_; intro wn hbn hgn hon hsn; have hS1 := hS.put 1 rfl hon hbn hgn; (try simp only [List.nil_append, List.cons_append, List.set_cons_zero, List.set_cons_succ] at hS1); clear hS hbn hgn hon hsn; have hS := hS1; clear hS1))
                      go_wp2_with (first | go_skip | ((with_reducible refine gate_op (op := .load 36 (.tmp 14)) rfl ?_); refine wpList_load_row' rfl 36 (.tmp 14) rfl _ rfl 36 _ (0, 0) _ (hS.at_ 0 rfl) Tryz.underlying36 rfl (op_info _ z1s) ?_) | ((with_reducible refine gate_op (op := .load 36 (.tmp 16)) rfl ?_); refine wpList_load_row' rfl 36 (.tmp 16) rfl _ rfl 36 _ (0, 0) _ (hS.at_ 1 rfl) Tryz.underlying36 rfl (op_info _ z2s) ?_) | (go_at_call 17; (with_reducible (refine (same_is HZ1.out.1 HZ2.out.1 (HZ1.out.2.symm.trans (HYY.out.trans HZ2.out.2)) _).mono ?_)); rintro e wn ⟨rfl, hbn⟩; have hS1 := hS.step hbn; clear hS hbn; have hS := hS1; clear hS1))
                      go_roundw
                      case rel => exact ⟨j + 1, by omega, by go_num, HBZ.out.trans (hS.below.mono HBZ.out.size)⟩
                      case measure => simp [intOf]; omega
                    · have hjlb : decide ((j : Int) < (keysW la).length) = false := by simp; omega
                      go_wp2_with go_skip
                      go_ret
                      exact ⟨rfl, HW.out.trans ((HS6.out.below.mono HW.out.size).trans (HBZ.out.mono (Nat.le_trans HW.out.size HS6.out.below.size)))⟩
                · obtain ⟨m, rfl⟩ : ∃ m, k = m + 1 := ⟨k - 1, by omega⟩
                  have hm : m < L.length := by omega
                  have he : (((m + 1 : Nat) : Int) - 1) = (m : Int) := by omega
                  rw [he]
                  obtain ⟨x, hx⟩ : ∃ x, L[m]? = some x := ⟨_, List.getElem?_eq_getElem hm⟩
                  have HXx := Lib.hid hx
                  have HXo := Lib.hid (HL.out.ok x (List.mem_of_getElem? hx))
                  have ix := HL.out.ix hm c1
                  have cX := Lib.hid (fun q v hv => ((HL.out.move HW.out).move (hS.below.mono HW.out.size)).c m x hx q v hv)
                  have h0b : decide ((0 : Int) ≤ m) = true := by simp
                  clear hx h0 he
                  go_wp2_with (first | go_skip | ((with_reducible refine gate_op (op := .load 39 (.tmp 134)) rfl ?_); refine load_cells rfl 39 (.tmp 134) rfl _ _ rfl x.c _ cX.out Tryz.underlying39 rfl (word_info x) ?_) | (go_at_call 10; (with_reducible (refine (wOp_any x _).mono ?_)); rintro e wn ⟨rfl, hbn⟩; have hS1 := hS.step hbn; clear hS hbn; have hS := hS1; clear hS1) | (go_at_call 9; have q0 := hS.at_ 2 rfl; have q1 := hS.at_ (2 + 1) rfl; (with_reducible (refine (apply_word x lb p b _ (HV.out.step (HW.out.trans (hS.below.mono HW.out.size))) HXo.out HB.out.1 q1 q0).mono ?_)); clear q0 q1; rintro e wn ⟨r, l2, rfl, hz, hgn, hbut⟩; have HZ := Lib.hid hz; have hS1 := hS.turn 2 rfl hbut hgn; clear hS hgn hbut hz; simp only [List.set_cons_zero, List.set_cons_succ] at hS1; have hS := hS1; clear hS1))
                  go_roundw
                  case rel => exact ⟨m, l2, S ++ [x], by omega, by go_num, ⟨HZ.out.2.1, by have := HZ.out.2.2; have := HB.out.2.1; omega, HB.out.2.2.1.step HZ.out.1, fun y hy => by rcases List.mem_append.1 hy with hy | hy; exact HB.out.2.2.2.1 y hy; rw [List.mem_singleton.1 hy]; exact List.mem_of_getElem? HXx.out, fun y hy => by rw [drop_more HXx.out] at hy; rcases List.mem_cons.1 hy with hy | hy; exact List.mem_append_right _ (by rw [hy]; simp); exact List.mem_append_left _ (HB.out.2.2.2.2 y hy)⟩, hS⟩
                  case measure => first | (simp [intOf]; done) | (simp [intOf]; omega)
set_option maxRecDepth 100000 in
set_option maxHeartbeats 1000000 in
omit hL hN in
theorem order_long (h : 20 < L.length ∨ 40 < N.length) : Calls Tryz.prog 5 #[.slice A1 L.length c1, .slice A2 N.length c2] w fun e w' => e = .returned (.bool true) ∧ Below w.heap.size w w' := by
  have HV := Lib.hid hw
  have hS := Boxes.start w
  clear hw
  by_cases h20 : 20 < L.length
  · have d1 : decide ((20 : Int) < L.length) = true := by simp; omega
    clear h
    go_enter Tryz.func5, Tryz.ntmps5
    go_wp2_with (first | go_skip | (go_at_call 7; (with_reducible (refine (awake22_any _ (HV.out.step hS.below)).mono ?_)); rintro e wn ⟨rfl, hbn⟩; have hS1 := hS.step hbn; clear hS hbn; have hS := hS1; clear hS1))
    go_ret
    exact ⟨rfl, hS.below⟩
  · have d1 : decide ((20 : Int) < L.length) = false := by simp; omega
    have d2 : decide ((40 : Int) < N.length) = true := by simp; omega
    clear h
    go_enter Tryz.func5, Tryz.ntmps5
    go_wp2_with (first | go_skip | (go_at_call 7; (with_reducible (refine (awake22_any _ (HV.out.step hS.below)).mono ?_)); rintro e wn ⟨rfl, hbn⟩; have hS1 := hS.step hbn; clear hS hbn; have hS := hS1; clear hS1))
    go_ret
    exact ⟨rfl, hS.below⟩
theorem lwwOrder_walk : Calls Tryz.prog 5 #[.slice A1 L.length c1, .slice A2 N.length c2] w fun e w' => e = .returned (.bool true) ∧ Below w.heap.size w w' := by
  by_cases h : 20 < L.length ∨ 40 < N.length
  · exact order_long A1 c1 L A2 c2 N w hw h
  · exact order_go A1 g1 o1 c1 L A2 g2 o2 c2 N w hw hL hN (by omega) (by omega)
end
end Go.Proofs.YteplcnpmdjdlkaaGreatDoor
