/-
  When two trees are alike, in plain Lean. No condition.
  When two operations are alike. No condition.
  value.stamp tells what is written here, for all texts. No condition beside their length.
  value.Good tells what is written here, for all trees. Condition: the library's variables read as the library lays them.
  Likeness of trees: of each with itself, both ways, from one to another. No condition.
  Trees alike, part by part; they are judged alike. No condition.
-/
import Derived.Test.YtffcpmohanhihaaGreatDoorJ11
import Derived.Test.YtffcpmohanhihaaGreatDoorJ10
import Derived.Lib.ConvBytes
import Derived.Lib.SmallJoins
import Derived.Test.YtffcpmohanhihaaGreatDoorJudgeWJ
import Derived.Test.YtffcpmohanhihaaGreatDoorOwnJ
import Derived.Test.YtffcpmohanhihaaGreatDoorJ4
import Derived.Test.YtffcpmohanhihaaGreatDoorUtfTake
namespace Go.Proofs.YtffcpmohanhihaaGreatDoor
open Go.RowKit
set_option linter.unusedVariables false
set_option linter.unusedSimpArgs false
def sameB (num : ByteArray → ByteArray → Bool) : VT → VT → Bool
  | .no, b => (0 : Int) == b.k && (0 : Int) == b.n && 0 == b.ln && 0 == b.mn && ((⟨#[]⟩ : ByteArray).toList == b.s.toList)
  | .mk k n s _ _ _ ln _ lt _ _ _ mn _ key mt, b => k == b.k && n == b.n && ln == b.ln && mn == b.mn && (s.toList == b.s.toList || k == 3 && num s b.s) &&
      allTo (fun i => sameB num (lt i) (b.lt i)) ln && allTo (fun i => (key i).toList == (b.key i).toList && sameB num (mt i) (b.mt i)) mn
theorem sameB_eq (num : ByteArray → ByteArray → Bool) (a b : VT) : sameB num a b = (a.k == b.k && a.n == b.n && a.ln == b.ln && a.mn == b.mn && (a.s.toList == b.s.toList || a.k == 3 && num a.s b.s) &&
      allTo (fun i => sameB num (a.lt i) (b.lt i)) a.ln && allTo (fun i => (a.key i).toList == (b.key i).toList && sameB num (a.mt i) (b.mt i)) a.mn) := by
  cases a with
  | no => simp [sameB, VT.k, VT.n, VT.s, VT.ln, VT.mn, allTo]
  | mk => rfl
def nev (_ _ : ByteArray) : Bool := false
def sameV (a b : VT) : Bool := sameB nev a b
end Go.Proofs.YtffcpmohanhihaaGreatDoor
namespace Go.Proofs.YtffcpmohanhihaaGreatDoor
open Go.RowKit
def sameO (a b : OpV) (ta tb : VT) : Bool := sameV ta tb && (a.R == b.R && a.N == b.N) && a.T == b.T && a.seen == b.seen && a.K == b.K && (a.OR == b.OR && a.ON == b.ON) && a.key.toList == b.key.toList && (a.AR == b.AR && a.AN == b.AN) && a.M == b.M
end Go.Proofs.YtffcpmohanhihaaGreatDoor
namespace Go.Proofs.YtffcpmohanhihaaGreatDoor
open Go.RowKit
set_option linter.unusedVariables false
set_option linter.unusedSimpArgs false
def oddB (c : UInt8) : Bool := decide (c.toNat < 32) || decide (126 < c.toNat)
def oddL (l : List UInt8) : Bool := l.any oddB
def stampB (s : ByteArray) : Bool := decide (1 ≤ s.size) && decide (s.size ≤ 64) && !(oddL s.data.toList)
theorem odd_any (c : UInt8) (w : World) : Calls Tryz.prog 158 #[.int .u8 (c.toNat : Int)] w fun e w' => e = .returned (.bool (oddB c)) ∧ w' = w := by
  have hc := c.toNat_lt
  by_cases h : c.toNat < 32
  · have hh : Hid (oddB c = true) := by unfold Hid oddB; simp [h]
    have h1 : decide ((c.toNat : Int) < 32) = true := by simp; omega
    go_enter Tryz.func158, Tryz.ntmps158
    go_wp2
    go_ret
    exact ⟨ret_bool hh.out.symm, rfl⟩
  · have hh : Hid (oddB c = decide (126 < c.toNat)) := by unfold Hid oddB; simp [h]
    have h1 : decide ((c.toNat : Int) < 32) = false := by simp; omega
    go_enter Tryz.func158, Tryz.ntmps158
    go_wp2
    go_ret
    exact ⟨ret_bool (by rw [hh.out, Bool.eq_iff_iff]; simp; omega), rfl⟩
set_option maxHeartbeats 1000000 in
/-- The first odd byte's place, or -1. -/
theorem index_any (l : List UInt8) (g cap : Nat) (w : World) (hl : l.length ≤ 9223372036854775806) (hc : ∀ j, j < l.length → w.cell? ⟨g, j, none⟩ = some (.int .u8 (l.getD j 0).toNat)) :
    Calls Tryz.prog 170 #[.slice (some ⟨g, 0, none⟩) l.length cap, .func (.func 158) #[] #[]] w fun e w' => (∃ r : Int, e = .returned (.int .i64 r) ∧ decide (0 ≤ r) = oddL l) ∧ w' = w := by
  have HC := Lib.hid hc
  clear hc
  go_enter Tryz.func170, Tryz.ntmps170
  go_wp2_with fail
  go_loop [8] (fun iv => ∃ k : Nat, k ≤ l.length ∧ iv = .int .i64 (k : Int) ∧ Hid ((l.take k).any oddB = false)) (fun iv => l.length - (intOf iv).toNat)
  case atStart => exact ⟨0, Nat.zero_le _, rfl, rfl⟩
  case round =>
    obtain ⟨k, hk, rfl, H⟩ := hrel
    by_cases hlt : k < l.length
    · have hx := run_index_row (P := Tryz.prog) 105 5 Tryz.underlying105 1 (by kernel_rfl) (A := some ⟨g, 0, none⟩) rfl hlt cap
      have hcell := HC.out k hlt
      have hn : Hid ((l.take (k + 1)).any oddB = oddB (l.getD k 0)) := by
        unfold Hid
        rw [List.take_succ_eq_append_getElem hlt, List.any_append, H.out, List.getD_eq_getElem?_getD, List.getElem?_eq_getElem hlt]
        simp
      have hy : Hid (oddB (l.getD k 0) = true → oddL l = true) := by
        intro h
        unfold oddL
        rw [List.any_eq_true]
        exact ⟨_, by rw [List.getD_eq_getElem?_getD, List.getElem?_eq_getElem hlt]; exact List.getElem_mem hlt, h⟩
      have hodd := odd_any (l.getD k 0) w
      generalize l.getD k 0 = c at *
      cases ho : oddB c
      · rw [ho] at hodd
        have HO := Lib.hid hodd
        have hn2 : Hid ((l.take (k + 1)).any oddB = false) := hn.out.trans ho
        clear hodd hn hy ho
        go_wp2_with (first | go_skip | (refine call_fn rfl (.tmp 11) #[.tmp 15] #[5] rfl rfl Tryz.func158 (by kernel_rfl) (by kernel_rfl) #[.int .u8 (c.toNat : Int)] (by simp only [List.map_toArray, List.map_cons, List.map_nil]; rfl) ?_; (with_reducible (refine HO.out.mono ?_)); rintro e w1 ⟨rfl, rfl⟩; refine ⟨_, rfl, ?_⟩))
        go_round
        case rel => exact ⟨k + 1, by omega, by go_num, hn2⟩
        case measure => simp [intOf]; omega
      · rw [ho] at hodd
        have HO := Lib.hid hodd
        have hy2 : Hid (oddL l = true) := hy.out ho
        clear hodd hn hy ho
        go_wp2_with (first | go_skip | (refine call_fn rfl (.tmp 11) #[.tmp 15] #[5] rfl rfl Tryz.func158 (by kernel_rfl) (by kernel_rfl) #[.int .u8 (c.toNat : Int)] (by simp only [List.map_toArray, List.map_cons, List.map_nil]; rfl) ?_; (with_reducible (refine HO.out.mono ?_)); rintro e w1 ⟨rfl, rfl⟩; refine ⟨_, rfl, ?_⟩))
        go_ret
        exact ⟨⟨_, rfl, by rw [hy2.out]; simp⟩, rfl⟩
    · obtain rfl : k = l.length := by omega
      go_wp2_with fail
      go_ret
      refine ⟨⟨_, rfl, ?_⟩, rfl⟩
      have := H.out
      rw [List.take_length] at this
      unfold oddL; rw [this]; simp
set_option maxHeartbeats 1000000 in
theorem contains_any (l : List UInt8) (g cap : Nat) (w : World) (hl : l.length ≤ 9223372036854775806) (hc : ∀ j, j < l.length → w.cell? ⟨g, j, none⟩ = some (.int .u8 (l.getD j 0).toNat)) :
    Calls Tryz.prog 159 #[.slice (some ⟨g, 0, none⟩) l.length cap, .func (.func 158) #[] #[]] w fun e w' => e = .returned (.bool (oddL l)) ∧ w' = w := by
  have H := Lib.hid (index_any l g cap w hl hc)
  clear hc
  go_enter Tryz.func159, Tryz.ntmps159
  go_wp2_with (go_at_call 170; refine H.out.mono ?_; rintro e w1 ⟨⟨r, rfl, hr⟩, rfl⟩; have HR := Lib.hid hr; clear hr)
  go_ret
  exact ⟨ret_bool HR.out, rfl⟩
set_option maxRecDepth 100000 in
set_option maxHeartbeats 1000000 in
theorem stamp_any (s : ByteArray) (w : World) (hs : s.size ≤ 9223372036854775807) : Calls Tryz.prog 146 #[.string s] w fun e w' => e = .returned (.bool (stampB s)) ∧ Below w.heap.size w w' := by
  by_cases h1 : 1 ≤ s.size
  · have e1 : decide ((1 : Int) ≤ s.size) = true := by simp; omega
    have e1b : decide (1 ≤ s.size) = true := by simp; omega
    by_cases h2 : s.size ≤ 64
    · have e2 : decide ((s.size : Int) ≤ 64) = true := by simp; omega
      have e2b : decide (s.size ≤ 64) = true := by simp; omega
      have hh : Hid (stampB s = !(oddL s.data.toList)) := by unfold Hid stampB; simp [h1, h2]
      have hlen : s.data.toList.length = s.size := by rw [Lib.size_eq]
      have HC := Lib.hid (contains_any s.data.toList w.heap.size (grownCap w s.size 0 5) (Lib.bytesWorld w 5 s) (by rw [hlen]; omega) (fun j hj => Lib.bytesWorld_cell w 5 s j (by rw [hlen] at hj; exact hj)))
      have HB := Lib.hid (Joins.below_bytesWorld w.heap.size w 5 s (Nat.le_refl _))
      have HC := HC.out
      rw [hlen] at HC
      have HC := Lib.hid HC
      clear hlen
      go_enter Tryz.func146, Tryz.ntmps146
      go_wp2_with (first | go_skip | (rw [Lib.run_convert_string_bytes _ 9 105 5 _ Tryz.underlying9 Tryz.underlying105 Tryz.underlying5]) | (go_at_call 159; refine HC.out.mono ?_; rintro e w1 ⟨rfl, rfl⟩))
      go_ret
      exact ⟨ret_bool hh.out.symm, HB.out⟩
    · have e2 : decide ((s.size : Int) ≤ 64) = false := by simp; omega
      have e2b : decide (s.size ≤ 64) = false := by simp; omega
      have hh : Hid (stampB s = false) := by unfold Hid stampB; simp [h2]
      go_enter Tryz.func146, Tryz.ntmps146
      go_wp2
      go_ret
      exact ⟨ret_bool hh.out.symm, Below.refl _ _⟩
  · have e1 : decide ((1 : Int) ≤ s.size) = false := decide_eq_false (by omega)
    have e1b : decide (1 ≤ s.size) = false := decide_eq_false (by omega)
    have hh : Hid (stampB s = false) := by unfold Hid stampB; simp [h1]
    go_enter Tryz.func146, Tryz.ntmps146
    go_wp2
    go_ret
    exact ⟨ret_bool hh.out.symm, Below.refl _ _⟩
end Go.Proofs.YtffcpmohanhihaaGreatDoor
namespace Go.Proofs.YtffcpmohanhihaaGreatDoor
open Go.RowKit
set_option linter.unusedVariables false
set_option linter.unusedSimpArgs false
theorem gPow' : Tryz.prog.globalNamed "internal/strconv.uint64pow10" = some 5 := by kernel_rfl
theorem gRng' : Tryz.prog.globalNamed "strconv.ErrRange" = some 1 := by kernel_rfl
theorem gSyn' : Tryz.prog.globalNamed "strconv.ErrSyntax" = some 0 := by kernel_rfl
/-- Behind the last variable that is read. -/
def GV : Nat := max 5 (max 1 0) + 1
theorem var_lt {n : String} {g : Nat} {cs : Array Value} {w : World} (hn : Tryz.prog.globalNamed n = some g) (h : w.var? Tryz.prog n = some cs) : g < w.heap.size := by
  unfold World.var? at h
  rw [hn] at h
  simp only [Option.bind_some] at h
  rcases Nat.lt_or_ge g w.heap.size with h' | h'
  · exact h'
  · rw [Array.getElem?_eq_none h'] at h; cases h
theorem var_b {n : String} {g B : Nat} {cs : Array Value} {w w' : World} (hn : Tryz.prog.globalNamed n = some g) (h : w.var? Tryz.prog n = some cs) (hg : g < B) (hb : Below B w w') : w'.var? Tryz.prog n = some cs := by
  unfold World.var? at h ⊢
  rw [hn] at h ⊢
  simp only [Option.bind_some] at h ⊢
  rw [hb.block g hg]
  exact h
theorem Vars.big {w : World} (h : Vars w) : GV ≤ w.heap.size := by
  have h1 := var_lt gPow' h.tab
  obtain ⟨_, _, hs⟩ := h.syn
  have h2 := var_lt gSyn' hs
  obtain ⟨_, _, hr⟩ := h.rng
  have h3 := var_lt gRng' hr
  unfold GV
  omega
theorem Vars.stay (B : Nat) (w w' : World) (hB : GV ≤ B) (h : Vars w) (hb : Below B w w') : Vars w' := by
  have hB' := hB
  unfold GV at hB'
  exact ⟨var_b gPow' h.tab (by omega) hb, by obtain ⟨t, p, h⟩ := h.syn; exact ⟨t, p, var_b gSyn' h (by omega) hb⟩, by obtain ⟨t, p, h⟩ := h.rng; exact ⟨t, p, var_b gRng' h (by omega) hb⟩⟩
def ownV (t : VT) : Bool := ownB t (intN t.s.data.toList).isSome (goodN t.s.data.toList) (letC t.s == 0) (stampB t.s)
theorem own_v (t : VT) (W : World) (hw : Vars W) (ht : VT.In W.heap.size W t) : Calls Tryz.prog 126 #[.agg t.c] W fun e w' => e = .returned (.bool (ownV t)) ∧ Below W.heap.size W w' := by
  have hs := ht.here.sl
  refine own_any t _ _ _ _ W ?_ ?_ ?_ ?_
  · exact fun _ W' hB => (int_any t.s W' (hw.step hB) good_ascii).mono fun e w' ⟨he, hb⟩ => ⟨⟨_, he⟩, hb⟩
  · exact fun _ W' hB => good_any t.s W'
  · exact fun _ W' hB => (letters_any t.s W' hs).mono fun e w' ⟨he, hb⟩ => ⟨⟨_, he, rfl⟩, hb⟩
  · exact fun _ W' hB => stamp_any t.s W' hs
def goodT (t : VT) : Bool := (judgeT ownV letC t 1 0).1
theorem goodT_any (t : VT) (w : World) (hw : Vars w) (ht : VT.In w.heap.size w t) : Calls Tryz.prog 95 #[.agg t.c] w fun e w' => e = .returned (.bool (goodT t)) ∧ Below w.heap.size w w' :=
  vGood_any ownV letC GV Vars (fun B W W' hB hW hb => Vars.stay B W W' hB hW hb) own_v (fun s W _ hs => letters_any s W hs) t w hw hw.big ht
end Go.Proofs.YtffcpmohanhihaaGreatDoor
namespace Go.Proofs.YtffcpmohanhihaaGreatDoor
set_option linter.unusedVariables false
set_option linter.unusedSimpArgs false
theorem sameV_eq (a b : VT) : sameV a b = (a.k == b.k && a.n == b.n && a.ln == b.ln && a.mn == b.mn && (a.s.toList == b.s.toList) &&
      allTo (fun i => sameV (a.lt i) (b.lt i)) a.ln && allTo (fun i => (a.key i).toList == (b.key i).toList && sameV (a.mt i) (b.mt i)) a.mn) := by
  unfold sameV
  rw [sameB_eq]
  simp [nev]
theorem sameV_iff (a b : VT) : sameV a b = true ↔ a.k = b.k ∧ a.n = b.n ∧ a.ln = b.ln ∧ a.mn = b.mn ∧ a.s.toList = b.s.toList ∧ (∀ i, i < a.ln → sameV (a.lt i) (b.lt i) = true) ∧ (∀ i, i < a.mn → (a.key i).toList = (b.key i).toList ∧ sameV (a.mt i) (b.mt i) = true) := by
  rw [sameV_eq]
  simp only [Bool.and_eq_true, beq_iff_eq, allTo_iff]
  constructor
  · rintro ⟨⟨⟨⟨⟨⟨h1, h2⟩, h3⟩, h4⟩, h5⟩, h6⟩, h7⟩
    exact ⟨h1, h2, h3, h4, h5, h6, h7⟩
  · rintro ⟨h1, h2, h3, h4, h5, h6, h7⟩
    exact ⟨⟨⟨⟨⟨⟨h1, h2⟩, h3⟩, h4⟩, h5⟩, h6⟩, h7⟩
theorem sameV_self (t : VT) : sameV t t = true := by
  induction t with
  | no => rw [sameV_iff]; exact ⟨rfl, rfl, rfl, rfl, rfl, fun i hi => absurd hi (Nat.not_lt_zero i), fun i hi => absurd hi (Nat.not_lt_zero i)⟩
  | mk k n s lA lb lo ln lc lt mA mb mo mn mc key mt ihl ihm =>
    rw [sameV_iff]
    exact ⟨rfl, rfl, rfl, rfl, rfl, fun i _ => ihl i, fun i _ => ⟨rfl, ihm i⟩⟩
theorem sameV_symm {a : VT} : ∀ {b : VT}, sameV a b = true → sameV b a = true := by
  have key : ∀ a : VT, (∀ i, i < a.ln → ∀ b, sameV (a.lt i) b = true → sameV b (a.lt i) = true) → (∀ i, i < a.mn → ∀ b, sameV (a.mt i) b = true → sameV b (a.mt i) = true) → ∀ b, sameV a b = true → sameV b a = true := by
    intro a ihl ihm b h
    rw [sameV_iff] at h ⊢
    obtain ⟨h1, h2, h3, h4, h5, h6, h7⟩ := h
    exact ⟨h1.symm, h2.symm, h3.symm, h4.symm, h5.symm, fun i hi => ihl i (by omega) _ (h6 i (by omega)), fun i hi => ⟨(h7 i (by omega)).1.symm, ihm i (by omega) _ (h7 i (by omega)).2⟩⟩
  induction a with
  | no => exact fun {b} => key .no (fun i hi => absurd hi (Nat.not_lt_zero i)) (fun i hi => absurd hi (Nat.not_lt_zero i)) b
  | mk k n s lA lb lo ln lc lt mA mb mo mn mc ky mt ihl ihm => exact fun {b} => key (.mk k n s lA lb lo ln lc lt mA mb mo mn mc ky mt) (fun i _ b h => @ihl i b h) (fun i _ b h => @ihm i b h) b
theorem sameV_trans {a : VT} : ∀ {b c : VT}, sameV a b = true → sameV b c = true → sameV a c = true := by
  have key : ∀ a : VT, (∀ i, i < a.ln → ∀ b c, sameV (a.lt i) b = true → sameV b c = true → sameV (a.lt i) c = true) → (∀ i, i < a.mn → ∀ b c, sameV (a.mt i) b = true → sameV b c = true → sameV (a.mt i) c = true) → ∀ b c, sameV a b = true → sameV b c = true → sameV a c = true := by
    intro a ihl ihm b c h k
    rw [sameV_iff] at h k ⊢
    obtain ⟨h1, h2, h3, h4, h5, h6, h7⟩ := h
    obtain ⟨k1, k2, k3, k4, k5, k6, k7⟩ := k
    exact ⟨h1.trans k1, h2.trans k2, h3.trans k3, h4.trans k4, h5.trans k5, fun i hi => ihl i hi _ _ (h6 i hi) (k6 i (by omega)), fun i hi => ⟨(h7 i hi).1.trans (k7 i (by omega)).1, ihm i hi _ _ (h7 i hi).2 (k7 i (by omega)).2⟩⟩
  induction a with
  | no => exact fun {b c} => key .no (fun i hi => absurd hi (Nat.not_lt_zero i)) (fun i hi => absurd hi (Nat.not_lt_zero i)) b c
  | mk k n s lA lb lo ln lc lt mA mb mo mn mc ky mt ihl ihm => exact fun {b c} => key (.mk k n s lA lb lo ln lc lt mA mb mo mn mc ky mt) (fun i _ b c h k => @ihl i b c h k) (fun i _ b c h k => @ihm i b c h k) b c
end Go.Proofs.YtffcpmohanhihaaGreatDoor
namespace Go.Proofs.YtffcpmohanhihaaGreatDoor
set_option linter.unusedVariables false
set_option linter.unusedSimpArgs false
set_option linter.unusedVariables false
set_option linter.unusedSimpArgs false
theorem ba_eq {a b : ByteArray} (h : a.toList = b.toList) : a = b := by
  rw [Lib.toList_data, Lib.toList_data] at h
  cases a with | mk a => cases b with | mk b => exact congrArg ByteArray.mk (Array.toList_inj.1 h)
/-- What likeness says, strings as they are. -/
theorem sameV_parts {a b : VT} (h : sameV a b = true) : a.k = b.k ∧ a.n = b.n ∧ a.ln = b.ln ∧ a.mn = b.mn ∧ a.s = b.s ∧ (∀ i, i < a.ln → sameV (a.lt i) (b.lt i) = true) ∧ (∀ i, i < a.mn → a.key i = b.key i ∧ sameV (a.mt i) (b.mt i) = true) := by
  obtain ⟨h1, h2, h3, h4, h5, h6, h7⟩ := (sameV_iff a b).1 h
  exact ⟨h1, h2, h3, h4, ba_eq h5, h6, fun i hi => ⟨ba_eq (h7 i hi).1, (h7 i hi).2⟩⟩
theorem VT.by_parts {p : VT → Prop} (key : ∀ t : VT, (∀ i, i < t.ln → p (t.lt i)) → (∀ i, i < t.mn → p (t.mt i)) → p t) (t : VT) : p t := by
  induction t with
  | no => exact key .no (fun i hi => absurd hi (Nat.not_lt_zero i)) (fun i hi => absurd hi (Nat.not_lt_zero i))
  | mk k n s lA lb lo ln lc lt mA mb mo mn mc ky mt ihl ihm => exact key (.mk k n s lA lb lo ln lc lt mA mb mo mn mc ky mt) (fun i _ => ihl i) (fun i _ => ihm i)
theorem runTo_congr {p q : Nat → Int → Bool × Int} {n : Nat} {m : Int} (h : ∀ i, i < n → ∀ m, p i m = q i m) : runTo p n m = runTo q n m := by
  induction n with
  | zero => rfl
  | succ n ih => rw [runTo, runTo, ih (fun i hi => h i (by omega)), h n (by omega)]
theorem judgeT_same {ob : VT → Bool} {letC : ByteArray → Int} (hob : ∀ a b, sameV a b = true → ob a = ob b) {a : VT} : ∀ {b : VT}, sameV a b = true → ∀ deep n0, judgeT ob letC a deep n0 = judgeT ob letC b deep n0 := by
  refine VT.by_parts (p := fun a => ∀ {b : VT}, sameV a b = true → ∀ deep n0, judgeT ob letC a deep n0 = judgeT ob letC b deep n0) (fun a ihl ihm b h deep n0 => ?_) a
  obtain ⟨h1, h2, h3, h4, h5, h6, h7⟩ := sameV_parts h
  have e1 : ∀ m, runTo (judgeL ob letC a deep) a.ln m = runTo (judgeL ob letC b deep) a.ln m := fun m => runTo_congr (fun i hi m => ihl i hi (h6 i hi) _ _)
  have e2 : ∀ m, runTo (judgeM ob letC a deep) a.mn m = runTo (judgeM ob letC b deep) a.mn m := fun m => runTo_congr (fun i hi m => by
    unfold judgeM
    rw [(h7 i hi).1, ihm i hi (h7 i hi).2]
    rcases Nat.eq_zero_or_pos i with h0 | h0
    · subst h0; simp
    · rw [(h7 (i - 1) (by omega)).1])
  rw [judgeT_eq ob letC a, judgeT_eq ob letC b, hob a b h, ← h3, ← h4, e1, e2]
theorem ownV_same (a b : VT) (h : sameV a b = true) : ownV a = ownV b := by
  obtain ⟨h1, h2, h3, h4, h5, h6, h7⟩ := sameV_parts h
  unfold ownV ownB
  rw [h1, h2, h3, h4, h5]
theorem goodT_same {a b : VT} (h : sameV a b = true) : goodT a = goodT b := by
  unfold goodT
  rw [judgeT_same ownV_same h]
theorem sameB_of {num : ByteArray → ByteArray → Bool} {a : VT} : ∀ {b : VT}, sameV a b = true → sameB num a b = true := by
  refine VT.by_parts (p := fun a => ∀ {b : VT}, sameV a b = true → sameB num a b = true) (fun a ihl ihm b h => ?_) a
  obtain ⟨h1, h2, h3, h4, h5, h6, h7⟩ := sameV_parts h
  rw [sameB_eq]
  simp only [Bool.and_eq_true, beq_iff_eq, allTo_iff, Bool.or_eq_true]
  exact ⟨⟨⟨⟨⟨⟨h1, h2⟩, h3⟩, h4⟩, Or.inl (by rw [h5])⟩, fun i hi => ihl i hi (h6 i hi)⟩, fun i hi => ⟨by rw [(h7 i hi).1], ihm i hi (h7 i hi).2⟩⟩
theorem sameV_comm (a b : VT) : sameV a b = sameV b a := by
  cases h : sameV a b with
  | true => exact (sameV_symm h).symm
  | false =>
    cases h2 : sameV b a with
    | true => rw [sameV_symm h2] at h; cases h
    | false => rfl
end Go.Proofs.YtffcpmohanhihaaGreatDoor
