/-
  A number's text is of ASCII letters, and at most 400 of them. No condition.
  value.stamp tells what is written here, for all texts. No condition beside their length.
  value.Good tells what is written here, for all trees. Condition: the library's variables read as the library lays them.
  The reference's reading of a number's text, in plain Lean, and that it is dec's. No condition.
-/
import Derived.Test.YtcpmehppfccihaaGreatDoorJ4
import Derived.Test.YtcpmehppfccihaaGreatDoorJ6
import Derived.Lib.ConvBytes
import Derived.Lib.SmallJoins
import Derived.Test.YtcpmehppfccihaaGreatDoorJudgeWJ
import Derived.Test.YtcpmehppfccihaaGreatDoorOwnJ
import Derived.Test.YtcpmehppfccihaaGreatDoorJ12
import Derived.Test.YtcpmehppfccihaaGreatDoorJ1
namespace Go.Proofs.YtcpmehppfccihaaGreatDoor
set_option linter.unusedVariables false
def Asc (l : List UInt8) : Prop := ∀ c ∈ l, c.toNat < 128
theorem isDig_asc {c : UInt8} (h : isDig c = true) : c.toNat < 128 := by simp [isDig] at h; omega
theorem Asc.append {a b : List UInt8} (ha : Asc a) (hb : Asc b) : Asc (a ++ b) := fun c hc => by
  rcases List.mem_append.1 hc with h | h
  · exact ha c h
  · exact hb c h
theorem prefix_one {l : List UInt8} {k : UInt8} (h : Lib.hasPrefix l [k] = true) : l = k :: l.drop 1 := by
  cases l with
  | nil => simp [Lib.hasPrefix] at h
  | cons c l =>
    have : k = c := by simpa [Lib.hasPrefix] using h
    rw [this]; rfl
theorem asc_cons {k : UInt8} {l : List UInt8} (hk : k.toNat < 128) (h : Asc l) : Asc (k :: l) := fun c hc => by
  rcases List.mem_cons.1 hc with rfl | hc
  · exact hk
  · exact h c hc
theorem powerN_asc {l : List UInt8} {q : Int} (h : powerN l = some q) : Asc l := by
  unfold powerN at h
  split at h
  · cases h
  · rename_i hn
    have hd : digN (signed l) = (signed l).length := by
      by_cases he : digN (signed l) = (signed l).length
      · exact he
      · exact absurd (.inr he) hn
    have hs : Asc (signed l) := fun c hc => by
      rw [← List.take_length (l := signed l), ← hd, take_dig] at hc
      exact isDig_asc (takeWhile_all hc)
    unfold signed at hs
    by_cases h1 : Lib.hasPrefix l [45] = true
    · rw [h1] at hs; rw [prefix_one h1]; exact asc_cons (by decide) hs
    · by_cases h2 : Lib.hasPrefix l [43] = true
      · rw [h2, Bool.or_true] at hs; rw [prefix_one h2]; exact asc_cons (by decide) hs
      · rw [if_neg (by simp [h1, h2])] at hs; exact hs
theorem parse_asc {l : List UInt8} {x : Num} (h : parseN l = some x) : l.length ≤ 400 ∧ Asc l := by
  unfold parseN at h
  split at h
  · cases h
  rename_i hl
  split at h
  · cases h
  rename_i hd
  obtain ⟨pr, hpr, h⟩ := Option.bind_eq_some_iff.1 h
  obtain ⟨e, he, h⟩ := Option.map_eq_some_iff.1 h
  refine ⟨by omega, ?_⟩
  have hE : Asc pr.2 := by
    unfold expN at he
    split at he
    · rename_i h0; rw [h0]; exact fun c hc => by cases hc
    · rename_i c r h0
      rw [h0]
      split at he
      · rename_i hc
        refine asc_cons ?_ (powerN_asc he)
        rcases hc with rfl | rfl <;> decide
      · cases he
  have hD : Asc ((Lib.trimPrefix l [45]).drop (digN (Lib.trimPrefix l [45]))) := by
    generalize (Lib.trimPrefix l [45]).drop (digN (Lib.trimPrefix l [45])) = r at hpr
    unfold partN at hpr
    split at hpr
    · rename_i h46
      split at hpr
      · cases hpr
      · cases hpr
        rw [prefix_one h46]
        refine asc_cons (by decide) ?_
        rw [← List.take_append_drop (digN (r.drop 1)) (r.drop 1)]
        refine Asc.append (fun c hc => ?_) ?_
        · rw [take_dig] at hc; exact isDig_asc (takeWhile_all hc)
        · rw [List.drop_drop, Nat.add_comm]; exact hE
    · cases hpr; exact hE
  have hR : Asc (Lib.trimPrefix l [45]) := by
    rw [← List.take_append_drop (digN (Lib.trimPrefix l [45])) (Lib.trimPrefix l [45])]
    refine Asc.append (fun c hc => ?_) hD
    rw [take_dig] at hc; exact isDig_asc (takeWhile_all hc)
  unfold Lib.trimPrefix at hR
  split at hR
  · rename_i h45; rw [prefix_one h45]; exact asc_cons (by decide) hR
  · exact hR
theorem good_ascii {s : ByteArray} (h : goodN s.data.toList = true) : s.size ≤ 400 ∧ ∀ (j : Nat) b, s.data.toList[j]? = some b → b.toNat < 128 := by
  unfold goodN at h
  obtain ⟨x, hx⟩ := Option.isSome_iff_exists.1 h
  obtain ⟨h1, h2⟩ := parse_asc hx
  exact ⟨by rw [Lib.size_eq]; exact h1, fun j b hb => h2 b (List.mem_of_getElem? hb)⟩
end Go.Proofs.YtcpmehppfccihaaGreatDoor
namespace Go.Proofs.YtcpmehppfccihaaGreatDoor
open Go.RowKit
set_option linter.unusedVariables false
set_option linter.unusedSimpArgs false
def oddB (c : UInt8) : Bool := decide (c.toNat < 32) || decide (126 < c.toNat)
def oddL (l : List UInt8) : Bool := l.any oddB
def stampB (s : ByteArray) : Bool := decide (1 ≤ s.size) && decide (s.size ≤ 64) && !(oddL s.data.toList)
theorem odd_any (c : UInt8) (w : World) : Calls Tryz.prog 63 #[.int .u8 (c.toNat : Int)] w fun e w' => e = .returned (.bool (oddB c)) ∧ w' = w := by
  have hc := c.toNat_lt
  by_cases h : c.toNat < 32
  · have hh : Hid (oddB c = true) := by unfold Hid oddB; simp [h]
    have h1 : decide ((c.toNat : Int) < 32) = true := by simp; omega
    go_enter Tryz.func63, Tryz.ntmps63
    go_wp2
    go_ret
    exact ⟨ret_bool hh.out.symm, rfl⟩
  · have hh : Hid (oddB c = decide (126 < c.toNat)) := by unfold Hid oddB; simp [h]
    have h1 : decide ((c.toNat : Int) < 32) = false := by simp; omega
    go_enter Tryz.func63, Tryz.ntmps63
    go_wp2
    go_ret
    exact ⟨ret_bool (by rw [hh.out, Bool.eq_iff_iff]; simp; omega), rfl⟩
set_option maxHeartbeats 1000000 in
/-- The first odd byte's place, or -1. -/
theorem index_any (l : List UInt8) (g cap : Nat) (w : World) (hl : l.length ≤ 9223372036854775806) (hc : ∀ j, j < l.length → w.cell? ⟨g, j, none⟩ = some (.int .u8 (l.getD j 0).toNat)) :
    Calls Tryz.prog 86 #[.slice (some ⟨g, 0, none⟩) l.length cap, .func (.func 63) #[] #[]] w fun e w' => (∃ r : Int, e = .returned (.int .i64 r) ∧ decide (0 ≤ r) = oddL l) ∧ w' = w := by
  have HC := Lib.hid hc
  clear hc
  go_enter Tryz.func86, Tryz.ntmps86
  go_wp2_with fail
  go_loop [8] (fun iv => ∃ k : Nat, k ≤ l.length ∧ iv = .int .i64 (k : Int) ∧ Hid ((l.take k).any oddB = false)) (fun iv => l.length - (intOf iv).toNat)
  case atStart => exact ⟨0, Nat.zero_le _, rfl, rfl⟩
  case round =>
    obtain ⟨k, hk, rfl, H⟩ := hrel
    by_cases hlt : k < l.length
    · have hx := run_index_row (P := Tryz.prog) 31 5 Tryz.underlying31 1 (by kernel_rfl) (A := some ⟨g, 0, none⟩) rfl hlt cap
      have hcell := HC.out k hlt
      have hn : Hid ((l.take (k + 1)).any oddB = oddB (l.getD k 0)) := by
        unfold Hid
        rw [List.take_succ_eq_append_getElem hlt, List.any_append, H.out, List.getD_eq_getElem?_getD, List.getElem?_eq_getElem hlt]
        simp
      have hy : Hid (oddB (l.getD k 0) = true → oddL l = true) := by
        intro h
        unfold oddL
        rw [List.any_eq_true]
        exact ⟨_, by rw [List.getD_eq_getElem?_getD, List.getElem?_eq_getElem hlt]; exact List.getElem_mem hlt, h⟩
      have hodd := odd_any (l.getD k 0) w
      generalize l.getD k 0 = c at *
      cases ho : oddB c
      · rw [ho] at hodd
        have HO := Lib.hid hodd
        have hn2 : Hid ((l.take (k + 1)).any oddB = false) := hn.out.trans ho
        clear hodd hn hy ho
        go_wp2_with (first | go_skip | (refine call_fn rfl (.tmp 11) #[.tmp 15] #[5] rfl rfl Tryz.func63 (by kernel_rfl) (by kernel_rfl) #[.int .u8 (c.toNat : Int)] (by simp only [List.map_toArray, List.map_cons, List.map_nil]; rfl) ?_; (with_reducible (refine HO.out.mono ?_)); rintro e w1 ⟨rfl, rfl⟩; refine ⟨_, rfl, ?_⟩))
        go_round
        case rel => exact ⟨k + 1, by omega, by go_num, hn2⟩
        case measure => simp [intOf]; omega
      · rw [ho] at hodd
        have HO := Lib.hid hodd
        have hy2 : Hid (oddL l = true) := hy.out ho
        clear hodd hn hy ho
        go_wp2_with (first | go_skip | (refine call_fn rfl (.tmp 11) #[.tmp 15] #[5] rfl rfl Tryz.func63 (by kernel_rfl) (by kernel_rfl) #[.int .u8 (c.toNat : Int)] (by simp only [List.map_toArray, List.map_cons, List.map_nil]; rfl) ?_; (with_reducible (refine HO.out.mono ?_)); rintro e w1 ⟨rfl, rfl⟩; refine ⟨_, rfl, ?_⟩))
        go_ret
        exact ⟨⟨_, rfl, by rw [hy2.out]; simp⟩, rfl⟩
    · obtain rfl : k = l.length := by omega
      go_wp2_with fail
      go_ret
      refine ⟨⟨_, rfl, ?_⟩, rfl⟩
      have := H.out
      rw [List.take_length] at this
      unfold oddL; rw [this]; simp
set_option maxHeartbeats 1000000 in
theorem contains_any (l : List UInt8) (g cap : Nat) (w : World) (hl : l.length ≤ 9223372036854775806) (hc : ∀ j, j < l.length → w.cell? ⟨g, j, none⟩ = some (.int .u8 (l.getD j 0).toNat)) :
    Calls Tryz.prog 64 #[.slice (some ⟨g, 0, none⟩) l.length cap, .func (.func 63) #[] #[]] w fun e w' => e = .returned (.bool (oddL l)) ∧ w' = w := by
  have H := Lib.hid (index_any l g cap w hl hc)
  clear hc
  go_enter Tryz.func64, Tryz.ntmps64
  go_wp2_with (go_at_call 86; refine H.out.mono ?_; rintro e w1 ⟨⟨r, rfl, hr⟩, rfl⟩; have HR := Lib.hid hr; clear hr)
  go_ret
  exact ⟨ret_bool HR.out, rfl⟩
set_option maxRecDepth 100000 in
set_option maxHeartbeats 1000000 in
theorem stamp_any (s : ByteArray) (w : World) (hs : s.size ≤ 9223372036854775807) : Calls Tryz.prog 40 #[.string s] w fun e w' => e = .returned (.bool (stampB s)) ∧ Below w.heap.size w w' := by
  by_cases h1 : 1 ≤ s.size
  · have e1 : decide ((1 : Int) ≤ s.size) = true := by simp; omega
    have e1b : decide (1 ≤ s.size) = true := by simp; omega
    by_cases h2 : s.size ≤ 64
    · have e2 : decide ((s.size : Int) ≤ 64) = true := by simp; omega
      have e2b : decide (s.size ≤ 64) = true := by simp; omega
      have hh : Hid (stampB s = !(oddL s.data.toList)) := by unfold Hid stampB; simp [h1, h2]
      have hlen : s.data.toList.length = s.size := by rw [Lib.size_eq]
      have HC := Lib.hid (contains_any s.data.toList w.heap.size (grownCap w s.size 0 5) (Lib.bytesWorld w 5 s) (by rw [hlen]; omega) (fun j hj => Lib.bytesWorld_cell w 5 s j (by rw [hlen] at hj; exact hj)))
      have HB := Lib.hid (Joins.below_bytesWorld w.heap.size w 5 s (Nat.le_refl _))
      have HC := HC.out
      rw [hlen] at HC
      have HC := Lib.hid HC
      clear hlen
      go_enter Tryz.func40, Tryz.ntmps40
      go_wp2_with (first | go_skip | (rw [Lib.run_convert_string_bytes _ 9 31 5 _ Tryz.underlying9 Tryz.underlying31 Tryz.underlying5]) | (go_at_call 64; refine HC.out.mono ?_; rintro e w1 ⟨rfl, rfl⟩))
      go_ret
      exact ⟨ret_bool hh.out.symm, HB.out⟩
    · have e2 : decide ((s.size : Int) ≤ 64) = false := by simp; omega
      have e2b : decide (s.size ≤ 64) = false := by simp; omega
      have hh : Hid (stampB s = false) := by unfold Hid stampB; simp [h2]
      go_enter Tryz.func40, Tryz.ntmps40
      go_wp2
      go_ret
      exact ⟨ret_bool hh.out.symm, Below.refl _ _⟩
  · have e1 : decide ((1 : Int) ≤ s.size) = false := decide_eq_false (by omega)
    have e1b : decide (1 ≤ s.size) = false := decide_eq_false (by omega)
    have hh : Hid (stampB s = false) := by unfold Hid stampB; simp [h1]
    go_enter Tryz.func40, Tryz.ntmps40
    go_wp2
    go_ret
    exact ⟨ret_bool hh.out.symm, Below.refl _ _⟩
end Go.Proofs.YtcpmehppfccihaaGreatDoor
namespace Go.Proofs.YtcpmehppfccihaaGreatDoor
open Go.RowKit
set_option linter.unusedVariables false
set_option linter.unusedSimpArgs false
theorem gPow' : Tryz.prog.globalNamed "internal/strconv.uint64pow10" = some 5 := by kernel_rfl
theorem gRng' : Tryz.prog.globalNamed "strconv.ErrRange" = some 2 := by kernel_rfl
theorem gSyn' : Tryz.prog.globalNamed "strconv.ErrSyntax" = some 1 := by kernel_rfl
/-- Behind the last variable that is read. -/
def GV : Nat := max 5 (max 2 1) + 1
theorem var_lt {n : String} {g : Nat} {cs : Array Value} {w : World} (hn : Tryz.prog.globalNamed n = some g) (h : w.var? Tryz.prog n = some cs) : g < w.heap.size := by
  unfold World.var? at h
  rw [hn] at h
  simp only [Option.bind_some] at h
  rcases Nat.lt_or_ge g w.heap.size with h' | h'
  · exact h'
  · rw [Array.getElem?_eq_none h'] at h; cases h
theorem var_b {n : String} {g B : Nat} {cs : Array Value} {w w' : World} (hn : Tryz.prog.globalNamed n = some g) (h : w.var? Tryz.prog n = some cs) (hg : g < B) (hb : Below B w w') : w'.var? Tryz.prog n = some cs := by
  unfold World.var? at h ⊢
  rw [hn] at h ⊢
  simp only [Option.bind_some] at h ⊢
  rw [hb.block g hg]
  exact h
theorem Vars.big {w : World} (h : Vars w) : GV ≤ w.heap.size := by
  have h1 := var_lt gPow' h.tab
  obtain ⟨_, _, hs⟩ := h.syn
  have h2 := var_lt gSyn' hs
  obtain ⟨_, _, hr⟩ := h.rng
  have h3 := var_lt gRng' hr
  unfold GV
  omega
theorem Vars.stay (B : Nat) (w w' : World) (hB : GV ≤ B) (h : Vars w) (hb : Below B w w') : Vars w' := by
  have hB' := hB
  unfold GV at hB'
  exact ⟨var_b gPow' h.tab (by omega) hb, by obtain ⟨t, p, h⟩ := h.syn; exact ⟨t, p, var_b gSyn' h (by omega) hb⟩, by obtain ⟨t, p, h⟩ := h.rng; exact ⟨t, p, var_b gRng' h (by omega) hb⟩⟩
def ownV (t : VT) : Bool := ownB t (intN t.s.data.toList).isSome (goodN t.s.data.toList) (letC t.s == 0) (stampB t.s)
theorem own_v (t : VT) (W : World) (hw : Vars W) (ht : VT.In W.heap.size W t) : Calls Tryz.prog 70 #[.agg t.c] W fun e w' => e = .returned (.bool (ownV t)) ∧ Below W.heap.size W w' := by
  have hs := ht.here.sl
  refine own_any t _ _ _ _ W ?_ ?_ ?_ ?_
  · exact fun _ W' hB => (int_any t.s W' (hw.step hB) good_ascii).mono fun e w' ⟨he, hb⟩ => ⟨⟨_, he⟩, hb⟩
  · exact fun _ W' hB => good_any t.s W'
  · exact fun _ W' hB => (letters_any t.s W' hs).mono fun e w' ⟨he, hb⟩ => ⟨⟨_, he, rfl⟩, hb⟩
  · exact fun _ W' hB => stamp_any t.s W' hs
def goodT (t : VT) : Bool := (judgeT ownV letC t 1 0).1
theorem goodT_any (t : VT) (w : World) (hw : Vars w) (ht : VT.In w.heap.size w t) : Calls Tryz.prog 17 #[.agg t.c] w fun e w' => e = .returned (.bool (goodT t)) ∧ Below w.heap.size w w' :=
  vGood_any ownV letC GV Vars (fun B W W' hB hW hb => Vars.stay B W W' hB hW hb) own_v (fun s W _ hs => letters_any s W hs) t w hw hw.big ht
end Go.Proofs.YtcpmehppfccihaaGreatDoor
namespace Go.Proofs.YtcpmehppfccihaaGreatDoor
set_option linter.unusedVariables false
set_option linter.unusedSimpArgs false
/-- The digits among the bytes, as a number, as long as it is at most 100000. -/
def rAcc (v : Nat) : List UInt8 → Option Nat
  | [] => some v
  | c :: l => if isDig c = true then (if 100000 < v * 10 + (c.toNat - 48) then none else rAcc (v * 10 + (c.toNat - 48)) l) else rAcc v l
def rpowN (l : List UInt8) : Option Int := (rAcc 0 l).map fun v => if Lib.hasPrefix l [45] = true then -(v : Int) else v
theorem rAcc_dig {l : List UInt8} {k : Nat} {b : UInt8} (hb : l[k]? = some b) (hd : isDig b = true) (a : Nat) : rAcc a (l.drop k) = if 100000 < a * 10 + (b.toNat - 48) then none else rAcc (a * 10 + (b.toNat - 48)) (l.drop (k + 1)) := by
  obtain ⟨hk, rfl⟩ := List.getElem?_eq_some_iff.1 hb
  rw [List.drop_eq_getElem_cons hk, rAcc, if_pos hd]
theorem rAcc_not {l : List UInt8} {k : Nat} {b : UInt8} (hb : l[k]? = some b) (hd : isDig b = false) (a : Nat) : rAcc a (l.drop k) = rAcc a (l.drop (k + 1)) := by
  obtain ⟨hk, rfl⟩ := List.getElem?_eq_some_iff.1 hb
  rw [List.drop_eq_getElem_cons hk, rAcc, if_neg (by rw [hd]; simp)]
theorem rAcc_end (a : Nat) {l : List UInt8} {k : Nat} (hk : l.length ≤ k) : rAcc a (l.drop k) = some a := by rw [List.drop_of_length_le hk]; rfl
/-- May it stand behind an e: a sign or none, digits. -/
def formP (p : List UInt8) : Bool := decide (signed p ≠ []) && decide (digN (signed p) = (signed p).length)
/-- What stands behind the digits: nothing, or an e and what may stand there. -/
def tailN : List UInt8 → Option (List UInt8)
  | [] => some []
  | c :: p => if (c = 101 ∨ c = 69) ∧ formP p = true then some p else none
def partsN (l : List UInt8) : Option (Bool × List UInt8 × List UInt8 × List UInt8) :=
  if digN (Lib.trimPrefix l [45]) = 0 ∨ (1 < digN (Lib.trimPrefix l [45]) ∧ (Lib.trimPrefix l [45]).head? = some 48) then none else
  (partN ((Lib.trimPrefix l [45]).drop (digN (Lib.trimPrefix l [45])))).bind fun pr =>
  (tailN pr.2).map fun p => (Lib.hasPrefix l [45], (Lib.trimPrefix l [45]).take (digN (Lib.trimPrefix l [45])), pr.1, p)
theorem rAcc_digs {l : List UInt8} (h : digN l = l.length) (v : Nat) : rAcc v l = pwAcc v l := by
  induction l generalizing v with
  | nil => rfl
  | cons c l ih =>
    have hd := all_dig h 0 c rfl
    have hl : digN l = l.length := by rw [digN_cons, if_pos hd] at h; simpa using h
    unfold rAcc pwAcc
    rw [if_pos hd]
    split
    · rfl
    · exact ih hl _
theorem rpow_is {p : List UInt8} (h : formP p = true) : rpowN p = powerN p := by
  unfold formP at h
  simp only [Bool.and_eq_true, decide_eq_true_eq] at h
  obtain ⟨h1, h2⟩ := h
  have hr : rAcc 0 p = pwAcc 0 (signed p) := by
    rw [← rAcc_digs h2]
    unfold signed
    by_cases a : (Lib.hasPrefix p [45] || Lib.hasPrefix p [43]) = true
    · rw [if_pos a]
      cases p with
      | nil => simp [Lib.hasPrefix] at a
      | cons c p =>
        have hc : isDig c = false := by
          have : c = 45 ∨ c = 43 := by
            have a2 := a
            rw [Bool.or_eq_true] at a2
            rcases a2 with a | a
            · left; have : (45 : UInt8) = c := by simpa [Lib.hasPrefix] using a
              exact this.symm
            · right; have : (43 : UInt8) = c := by simpa [Lib.hasPrefix] using a
              exact this.symm
          rcases this with rfl | rfl <;> decide
        rw [rAcc, if_neg (by rw [hc]; simp)]; rfl
    · rw [if_neg a]
  unfold rpowN powerN
  rw [if_neg (by simp [h1, h2]), hr]
theorem powerN_form {p : List UInt8} (h : formP p = false) : powerN p = none := by
  unfold formP at h
  unfold powerN
  rw [if_pos]
  by_cases h1 : signed p = []
  · exact .inl h1
  · right; intro h2; simp [h1, h2] at h
/-- dec's reading, out of the reference's. -/
theorem parse_parts {l : List UInt8} (hl : l.length ≤ 400) : parseN l = (partsN l).bind fun q => (rpowN q.2.2.2).map fun e => normN q.1 q.2.1 q.2.2.1 e := by
  unfold parseN partsN
  rw [if_neg (by omega)]
  by_cases hc : digN (Lib.trimPrefix l [45]) = 0 ∨ (1 < digN (Lib.trimPrefix l [45]) ∧ (Lib.trimPrefix l [45]).head? = some 48)
  · rw [if_pos hc, if_pos hc]; rfl
  · rw [if_neg hc, if_neg hc]
    cases partN ((Lib.trimPrefix l [45]).drop (digN (Lib.trimPrefix l [45]))) with
    | none => rfl
    | some pr =>
      show (expN pr.2).map _ = ((tailN pr.2).map _).bind _
      cases hq : pr.2 with
      | nil => rfl
      | cons c p =>
        by_cases he : c = 101 ∨ c = 69
        · have e1 : expN (c :: p) = powerN p := if_pos he
          cases hf : formP p
          · have e2 : tailN (c :: p) = none := if_neg (by rw [hf]; simp)
            rw [e1, e2, powerN_form hf]; rfl
          · have e2 : tailN (c :: p) = some p := if_pos ⟨he, hf⟩
            rw [e1, e2, ← rpow_is hf]; rfl
        · have e1 : expN (c :: p) = none := if_neg he
          have e2 : tailN (c :: p) = none := if_neg (fun h => he h.1)
          rw [e1, e2]; rfl
theorem rAcc_le {v a : Nat} {l : List UInt8} (hv : v ≤ 100000) (h : rAcc v l = some a) : a ≤ 100000 := by
  induction l generalizing v with
  | nil => simp [rAcc] at h; omega
  | cons c l ih =>
    unfold rAcc at h
    split at h
    · split at h
      · cases h
      · exact ih (by omega) h
    · exact ih hv h
theorem rpow_range {l : List UInt8} {e : Int} (h : (rpowN l).getD 0 = e) : -100000 ≤ e ∧ e ≤ 100000 := by
  unfold rpowN at h
  cases hp : rAcc 0 l with
  | none => rw [hp] at h; simp at h; omega
  | some a =>
    rw [hp] at h
    have := rAcc_le (by omega) hp
    simp at h
    split at h <;> omega
theorem parts_len {l : List UInt8} {q : Bool × List UInt8 × List UInt8 × List UInt8} (h : partsN l = some q) : q.2.1.length ≤ l.length ∧ q.2.2.1.length ≤ l.length ∧ q.2.2.2.length ≤ l.length := by
  unfold partsN at h
  split at h
  · cases h
  obtain ⟨pr, hpr, h⟩ := Option.bind_eq_some_iff.1 h
  obtain ⟨p, hp, h⟩ := Option.map_eq_some_iff.1 h
  subst h
  have hR := Lib.trimPrefix_le l [45]
  have h2 : pr.1.length ≤ l.length ∧ pr.2.length ≤ l.length := by
    unfold partN at hpr
    split at hpr
    · split at hpr
      · cases hpr
      · cases hpr
        simp only [List.length_take, List.length_drop]; omega
    · cases hpr
      simp only [List.length_nil, List.length_drop]; omega
  have h3 : p.length ≤ pr.2.length := by
    cases hq : pr.2 with
    | nil => rw [hq] at hp; cases hp; simp
    | cons c r =>
      rw [hq] at hp
      have e : tailN (c :: r) = if (c = 101 ∨ c = 69) ∧ formP r = true then some r else none := rfl
      rw [e] at hp
      split at hp
      · cases hp; simp
      · cases hp
  refine ⟨?_, h2.1, Nat.le_trans h3 h2.2⟩
  simp only [List.length_take]; omega
def minus (b : Bool) : List UInt8 := if b = true then [45] else []
theorem no_trim {l : List UInt8} (h : Lib.hasPrefix l [45] = false) : Lib.trimPrefix l [45] = l := by unfold Lib.trimPrefix; rw [if_neg (by simp [h])]
def valV : List UInt8 → Nat
  | [] => 0
  | c :: l => (c.toNat - 48) * 10 ^ l.length + valV l
theorem fold_val (acc : Nat) (l : List UInt8) : l.foldl (fun a c => a * 10 + (c.toNat - 48)) acc = acc * 10 ^ l.length + valV l := by
  induction l generalizing acc with
  | nil => simp [valV]
  | cons c l ih =>
    rw [List.foldl_cons, ih, valV, List.length_cons, Nat.pow_succ, Nat.add_mul]
    have : acc * 10 * 10 ^ l.length = acc * (10 ^ l.length * 10) := by rw [Nat.mul_assoc, Nat.mul_comm 10]
    omega
theorem dig_range {c : UInt8} (h : isDig c = true) : 48 ≤ c.toNat ∧ c.toNat ≤ 57 := by simp [isDig] at h; exact h
theorem val_mono (acc : Nat) (l : List UInt8) : acc ≤ l.foldl (fun a c => a * 10 + (c.toNat - 48)) acc := by
  rw [fold_val]
  have : 1 ≤ 10 ^ l.length := Nat.one_le_pow _ _ (by omega)
  have := Nat.le_mul_of_pos_right acc this
  omega
theorem uint_is {l : List UInt8} (hd : ∀ c ∈ l, isDig c = true) (acc : Nat) (h : l.foldl (fun a c => a * 10 + (c.toNat - 48)) acc ≤ 18446744073709551615) :
    Lib.parseUintM 18446744073709551615 acc l = .ok (l.foldl (fun a c => a * 10 + (c.toNat - 48)) acc) := by
  induction l generalizing acc with
  | nil => rfl
  | cons c l ih =>
    have hc := dig_range (hd c (by simp))
    have hm := val_mono (acc * 10 + (c.toNat - 48)) l
    rw [List.foldl_cons] at h ⊢
    unfold Lib.parseUintM
    rw [if_pos hc, if_neg (by omega), if_neg (by omega)]
    exact ih (fun c hc => hd c (List.mem_cons_of_mem _ hc)) _ h
theorem noAny {l cs : List UInt8} (h : ∀ c ∈ l, cs.contains c = false) : Lib.containsAny l cs = false := by
  have key : Lib.indexAny l cs = -1 := by
    induction l with
    | nil => rfl
    | cons c l ih =>
      unfold Lib.indexAny
      rw [if_neg (by rw [h c (by simp)]; simp), ih (fun c hc => h c (List.mem_cons_of_mem _ hc))]
      rfl
  unfold Lib.containsAny
  rw [key]; rfl
abbrev decF : Nat → UInt8 → Nat := fun a c => a * 10 + (c.toNat - 48)
theorem down_test {a x : Int} (hx : 0 ≤ x) (hx9 : x ≤ 9) : Int.tdiv (-9223372036854775808 + x) 10 = -((9223372036854775808 - x) / 10) := by
  rw [show (-9223372036854775808 + x : Int) = -(9223372036854775808 - x) by omega, Int.neg_tdiv, Int.tdiv_eq_ediv_of_nonneg (by omega)]
theorem uint_over {l : List UInt8} (hd : ∀ c ∈ l, isDig c = true) (acc : Nat) (ha : acc ≤ 18446744073709551615) (h : 18446744073709551615 < l.foldl decF acc) : Lib.parseUintM 18446744073709551615 acc l = .range := by
  induction l generalizing acc with
  | nil => simp at h; omega
  | cons c l ih =>
    have hc := dig_range (hd c (by simp))
    rw [List.foldl_cons] at h
    unfold Lib.parseUintM
    rw [if_pos hc]
    by_cases h1 : 1844674407370955162 ≤ acc
    · rw [if_pos h1]
    · rw [if_neg h1]
      by_cases h2 : 18446744073709551615 < acc * 10 + (c.toNat - 48)
      · rw [if_pos h2]
      · rw [if_neg h2]
        exact ih (fun c hc => hd c (List.mem_cons_of_mem _ hc)) _ (by omega) h
theorem uintB_is {l : List UInt8} (hd : ∀ c ∈ l, isDig c = true) (hne : l ≠ []) : Lib.parseUintB 64 l = if l.foldl decF 0 ≤ 18446744073709551615 then .ok (l.foldl decF 0) else .range := by
  unfold Lib.parseUintB
  rw [if_neg hne]
  by_cases h : l.foldl decF 0 ≤ 18446744073709551615
  · rw [if_pos h]; exact uint_is hd 0 h
  · rw [if_neg h]; exact uint_over hd 0 (by omega) (by omega)
theorem parseInt_lit (b : Bool) {D : List UInt8} (hd : ∀ c ∈ D, isDig c = true) (hne : D ≠ []) :
    (match Lib.parseIntB 64 (minus b ++ D) with | .ok v => some v | _ => none) = if b = true then (if D.foldl decF 0 ≤ 9223372036854775808 then some (-(D.foldl decF 0 : Nat) : Int) else none) else (if D.foldl decF 0 < 9223372036854775808 then some ((D.foldl decF 0 : Nat) : Int) else none) := by
  have hu := uintB_is hd hne
  cases b
  · have hm : minus false = [] := rfl
    rw [hm, List.nil_append]
    cases hq : D with
    | nil => exact absurd hq hne
    | cons c r =>
      have hc := dig_range (hd c (by rw [hq]; simp))
      rw [hq] at hu
      have e45 : ¬ c.toNat = 45 := by omega
      unfold Lib.parseIntB
      simp only
      rw [if_neg (show ¬ (c.toNat = 43 ∨ c.toNat = 45) by omega), hu]
      by_cases h : (c :: r).foldl decF 0 ≤ 18446744073709551615
      · rw [if_pos h]
        simp only [e45, not_false_eq_true, true_and, false_and, if_false]
        by_cases h2 : (c :: r).foldl decF 0 < 9223372036854775808
        · rw [if_neg (by omega), if_pos h2]; rfl
        · rw [if_pos (by omega), if_neg h2]; rfl
      · rw [if_neg h, if_neg (show ¬ (c :: r).foldl decF 0 < 9223372036854775808 by omega)]; rfl
  · have hm : minus true = [45] := rfl
    rw [hm]
    show (match Lib.parseIntB 64 (45 :: D) with | .ok v => some v | _ => none) = _
    unfold Lib.parseIntB
    simp only [show (45 : UInt8).toNat = 45 from rfl]
    rw [if_pos (.inr trivial), hu]
    by_cases h : D.foldl decF 0 ≤ 18446744073709551615
    · rw [if_pos h]
      simp only [not_true_eq_false, false_and, if_false, true_and, if_true]
      by_cases h2 : D.foldl decF 0 ≤ 9223372036854775808
      · rw [if_neg (by omega), if_pos h2]
      · rw [if_pos (by omega), if_neg h2]
    · rw [if_neg h]
      simp only [if_true]
      rw [if_neg (show ¬ D.foldl decF 0 ≤ 9223372036854775808 by omega)]
theorem any_mem {l cs : List UInt8} {c : UInt8} (hc : c ∈ l) (h : cs.contains c = true) : Lib.containsAny l cs = true := by
  have key : 0 ≤ Lib.indexAny l cs := by
    induction l with
    | nil => cases hc
    | cons a l ih =>
      unfold Lib.indexAny
      split
      · omega
      · rename_i hn
        rcases List.mem_cons.1 hc with rfl | hc
        · exact absurd h hn
        · have := ih hc
          have hne : (Lib.indexAny l cs == -1) = false := by
            cases hq : (Lib.indexAny l cs == -1)
            · rfl
            · have := eq_of_beq hq; omega
          rw [hne]; simp; omega
  unfold Lib.containsAny
  exact decide_eq_true key
theorem trim_back (l : List UInt8) : l = minus (Lib.hasPrefix l [45]) ++ Lib.trimPrefix l [45] := by
  cases h : Lib.hasPrefix l [45]
  · rw [no_trim h]; rfl
  · have e := prefix_one h
    unfold Lib.trimPrefix
    rw [h]
    exact e
/-- What stands in a text that parts reads. -/
theorem parts_in {l : List UInt8} {b : Bool} {W P p : List UInt8} (h : partsN l = some (b, W, P, p)) : (∀ c ∈ W, isDig c = true) ∧ W ≠ [] ∧ (P = [] → p = [] → l = minus b ++ W) ∧ (P ≠ [] → (46 : UInt8) ∈ l) ∧ (p ≠ [] → (101 : UInt8) ∈ l ∨ (69 : UInt8) ∈ l) := by
  have hb := trim_back l
  unfold partsN at h
  split at h
  · cases h
  rename_i hc
  obtain ⟨pr, hpr, h⟩ := Option.bind_eq_some_iff.1 h
  obtain ⟨q, hq, h⟩ := Option.map_eq_some_iff.1 h
  simp only [Prod.mk.injEq] at h
  obtain ⟨rfl, rfl, rfl, rfl⟩ := h
  have hR := List.take_append_drop (digN (Lib.trimPrefix l [45])) (Lib.trimPrefix l [45])
  have hn : digN (Lib.trimPrefix l [45]) ≠ 0 := fun e => hc (.inl e)
  generalize Lib.trimPrefix l [45] = R at *
  have hmem : ∀ c ∈ R.drop (digN R), c ∈ l := fun c hc => by rw [hb]; exact List.mem_append_right _ (List.mem_of_mem_drop hc)
  have hrest : (∀ c ∈ pr.2, c ∈ l) ∧ (pr.1 ≠ [] → (46 : UInt8) ∈ l) ∧ (pr.1 = [] → pr.2 = R.drop (digN R)) := by
    generalize hr : R.drop (digN R) = r at *
    unfold partN at hpr
    split at hpr
    · rename_i h46
      split at hpr
      · cases hpr
      · rename_i hk
        cases hpr
        have e := prefix_one h46
        refine ⟨fun c hc => hmem c (List.mem_of_mem_drop hc), fun _ => hmem 46 (by rw [e]; simp), fun h0 => ?_⟩
        exfalso
        have := congrArg List.length h0
        simp only [List.length_take, List.length_nil] at this
        have := digN_le (r.drop 1)
        omega
    · cases hpr
      exact ⟨hmem, fun h0 => absurd rfl h0, fun _ => rfl⟩
  have hl := digN_le R
  refine ⟨fun c hc => ?_, fun e => ?_, fun h1 h2 => ?_, hrest.2.1, fun h2 => ?_⟩
  · rw [take_dig] at hc; exact takeWhile_all hc
  · have := congrArg List.length e
    simp only [List.length_take, List.length_nil] at this
    omega
  · have h3 := hrest.2.2 h1
    have h4 : pr.2 = [] := by
      cases hp2 : pr.2 with
      | nil => rfl
      | cons c t =>
        rw [hp2] at hq
        have e : tailN (c :: t) = if (c = 101 ∨ c = 69) ∧ formP t = true then some t else none := rfl
        rw [e] at hq
        split at hq
        · rename_i hf
          cases hq
          rw [h2] at hf
          exact absurd hf.2 (by decide)
        · cases hq
    rw [h4] at h3
    rw [← h3, List.append_nil] at hR
    rw [hR]
    exact hb
  · cases hp2 : pr.2 with
    | nil =>
      rw [hp2] at hq
      have e : tailN [] = some [] := rfl
      rw [e] at hq; cases hq
      exact absurd rfl h2
    | cons c t =>
      have hcl := hrest.1 c (by rw [hp2]; simp)
      rw [hp2] at hq
      have e : tailN (c :: t) = if (c = 101 ∨ c = 69) ∧ formP t = true then some t else none := rfl
      rw [e] at hq
      split at hq
      · rename_i hf
        rcases hf.1 with rfl | rfl
        · exact .inl hcl
        · exact .inr hcl
      · cases hq
end Go.Proofs.YtcpmehppfccihaaGreatDoor
