/-
  A number's text is of ASCII letters, and at most 400 of them. No condition.
  value.stamp tells what is written here, for all texts. No condition beside their length.
  value.Good tells what is written here, for all trees. Condition: the library's variables read as the library lays them.
-/
import Derived.Test.YtcpmehppfccihaaGreatDoorJ3
import Derived.Test.YtcpmehppfccihaaGreatDoorJ6
import Derived.Lib.ConvBytes
import Derived.Lib.SmallJoins
import Derived.Test.YtcpmehppfccihaaGreatDoorJudgeWJ
import Derived.Test.YtcpmehppfccihaaGreatDoorOwnJ
import Derived.Test.YtcpmehppfccihaaGreatDoorJ4
import Derived.Test.YtcpmehppfccihaaGreatDoorJ11
namespace Go.Proofs.YtcpmehppfccihaaGreatDoor
set_option linter.unusedVariables false
def Asc (l : List UInt8) : Prop := ∀ c ∈ l, c.toNat < 128
theorem isDig_asc {c : UInt8} (h : isDig c = true) : c.toNat < 128 := by simp [isDig] at h; omega
theorem Asc.append {a b : List UInt8} (ha : Asc a) (hb : Asc b) : Asc (a ++ b) := fun c hc => by
  rcases List.mem_append.1 hc with h | h
  · exact ha c h
  · exact hb c h
theorem prefix_one {l : List UInt8} {k : UInt8} (h : Lib.hasPrefix l [k] = true) : l = k :: l.drop 1 := by
  cases l with
  | nil => simp [Lib.hasPrefix] at h
  | cons c l =>
    have : k = c := by simpa [Lib.hasPrefix] using h
    rw [this]; rfl
theorem asc_cons {k : UInt8} {l : List UInt8} (hk : k.toNat < 128) (h : Asc l) : Asc (k :: l) := fun c hc => by
  rcases List.mem_cons.1 hc with rfl | hc
  · exact hk
  · exact h c hc
theorem powerN_asc {l : List UInt8} {q : Int} (h : powerN l = some q) : Asc l := by
  unfold powerN at h
  split at h
  · cases h
  · rename_i hn
    have hd : digN (signed l) = (signed l).length := by
      by_cases he : digN (signed l) = (signed l).length
      · exact he
      · exact absurd (.inr he) hn
    have hs : Asc (signed l) := fun c hc => by
      rw [← List.take_length (l := signed l), ← hd, take_dig] at hc
      exact isDig_asc (takeWhile_all hc)
    unfold signed at hs
    by_cases h1 : Lib.hasPrefix l [45] = true
    · rw [h1] at hs; rw [prefix_one h1]; exact asc_cons (by decide) hs
    · by_cases h2 : Lib.hasPrefix l [43] = true
      · rw [h2, Bool.or_true] at hs; rw [prefix_one h2]; exact asc_cons (by decide) hs
      · rw [if_neg (by simp [h1, h2])] at hs; exact hs
theorem parse_asc {l : List UInt8} {x : Num} (h : parseN l = some x) : l.length ≤ 400 ∧ Asc l := by
  unfold parseN at h
  split at h
  · cases h
  rename_i hl
  split at h
  · cases h
  rename_i hd
  obtain ⟨pr, hpr, h⟩ := Option.bind_eq_some_iff.1 h
  obtain ⟨e, he, h⟩ := Option.map_eq_some_iff.1 h
  refine ⟨by omega, ?_⟩
  have hE : Asc pr.2 := by
    unfold expN at he
    split at he
    · rename_i h0; rw [h0]; exact fun c hc => by cases hc
    · rename_i c r h0
      rw [h0]
      split at he
      · rename_i hc
        refine asc_cons ?_ (powerN_asc he)
        rcases hc with rfl | rfl <;> decide
      · cases he
  have hD : Asc ((Lib.trimPrefix l [45]).drop (digN (Lib.trimPrefix l [45]))) := by
    generalize (Lib.trimPrefix l [45]).drop (digN (Lib.trimPrefix l [45])) = r at hpr
    unfold partN at hpr
    split at hpr
    · rename_i h46
      split at hpr
      · cases hpr
      · cases hpr
        rw [prefix_one h46]
        refine asc_cons (by decide) ?_
        rw [← List.take_append_drop (digN (r.drop 1)) (r.drop 1)]
        refine Asc.append (fun c hc => ?_) ?_
        · rw [take_dig] at hc; exact isDig_asc (takeWhile_all hc)
        · rw [List.drop_drop, Nat.add_comm]; exact hE
    · cases hpr; exact hE
  have hR : Asc (Lib.trimPrefix l [45]) := by
    rw [← List.take_append_drop (digN (Lib.trimPrefix l [45])) (Lib.trimPrefix l [45])]
    refine Asc.append (fun c hc => ?_) hD
    rw [take_dig] at hc; exact isDig_asc (takeWhile_all hc)
  unfold Lib.trimPrefix at hR
  split at hR
  · rename_i h45; rw [prefix_one h45]; exact asc_cons (by decide) hR
  · exact hR
theorem good_ascii {s : ByteArray} (h : goodN s.data.toList = true) : s.size ≤ 400 ∧ ∀ (j : Nat) b, s.data.toList[j]? = some b → b.toNat < 128 := by
  unfold goodN at h
  obtain ⟨x, hx⟩ := Option.isSome_iff_exists.1 h
  obtain ⟨h1, h2⟩ := parse_asc hx
  exact ⟨by rw [Lib.size_eq]; exact h1, fun j b hb => h2 b (List.mem_of_getElem? hb)⟩
end Go.Proofs.YtcpmehppfccihaaGreatDoor
namespace Go.Proofs.YtcpmehppfccihaaGreatDoor
open Go.RowKit
set_option linter.unusedVariables false
set_option linter.unusedSimpArgs false
def oddB (c : UInt8) : Bool := decide (c.toNat < 32) || decide (126 < c.toNat)
def oddL (l : List UInt8) : Bool := l.any oddB
def stampB (s : ByteArray) : Bool := decide (1 ≤ s.size) && decide (s.size ≤ 64) && !(oddL s.data.toList)
theorem odd_any (c : UInt8) (w : World) : Calls Tryz.prog 63 #[.int .u8 (c.toNat : Int)] w fun e w' => e = .returned (.bool (oddB c)) ∧ w' = w := by
  have hc := c.toNat_lt
  by_cases h : c.toNat < 32
  · have hh : Hid (oddB c = true) := by unfold Hid oddB; simp [h]
    have h1 : decide ((c.toNat : Int) < 32) = true := by simp; omega
    go_enter Tryz.func63, Tryz.ntmps63
    go_wp2
    go_ret
    exact ⟨ret_bool hh.out.symm, rfl⟩
  · have hh : Hid (oddB c = decide (126 < c.toNat)) := by unfold Hid oddB; simp [h]
    have h1 : decide ((c.toNat : Int) < 32) = false := by simp; omega
    go_enter Tryz.func63, Tryz.ntmps63
    go_wp2
    go_ret
    exact ⟨ret_bool (by rw [hh.out, Bool.eq_iff_iff]; simp; omega), rfl⟩
set_option maxHeartbeats 1000000 in
/-- The first odd byte's place, or -1. -/
theorem index_any (l : List UInt8) (g cap : Nat) (w : World) (hl : l.length ≤ 9223372036854775806) (hc : ∀ j, j < l.length → w.cell? ⟨g, j, none⟩ = some (.int .u8 (l.getD j 0).toNat)) :
    Calls Tryz.prog 86 #[.slice (some ⟨g, 0, none⟩) l.length cap, .func (.func 63) #[] #[]] w fun e w' => (∃ r : Int, e = .returned (.int .i64 r) ∧ decide (0 ≤ r) = oddL l) ∧ w' = w := by
  have HC := Lib.hid hc
  clear hc
  go_enter Tryz.func86, Tryz.ntmps86
  go_wp2_with fail
  go_loop [8] (fun iv => ∃ k : Nat, k ≤ l.length ∧ iv = .int .i64 (k : Int) ∧ Hid ((l.take k).any oddB = false)) (fun iv => l.length - (intOf iv).toNat)
  case atStart => exact ⟨0, Nat.zero_le _, rfl, rfl⟩
  case round =>
    obtain ⟨k, hk, rfl, H⟩ := hrel
    by_cases hlt : k < l.length
    · have hx := run_index_row (P := Tryz.prog) 31 5 Tryz.underlying31 1 (by kernel_rfl) (A := some ⟨g, 0, none⟩) rfl hlt cap
      have hcell := HC.out k hlt
      have hn : Hid ((l.take (k + 1)).any oddB = oddB (l.getD k 0)) := by
        unfold Hid
        rw [List.take_succ_eq_append_getElem hlt, List.any_append, H.out, List.getD_eq_getElem?_getD, List.getElem?_eq_getElem hlt]
        simp
      have hy : Hid (oddB (l.getD k 0) = true → oddL l = true) := by
        intro h
        unfold oddL
        rw [List.any_eq_true]
        exact ⟨_, by rw [List.getD_eq_getElem?_getD, List.getElem?_eq_getElem hlt]; exact List.getElem_mem hlt, h⟩
      have hodd := odd_any (l.getD k 0) w
      generalize l.getD k 0 = c at *
      cases ho : oddB c
      · rw [ho] at hodd
        have HO := Lib.hid hodd
        have hn2 : Hid ((l.take (k + 1)).any oddB = false) := hn.out.trans ho
        clear hodd hn hy ho
        go_wp2_with (first | go_skip | (refine call_fn rfl (.tmp 11) #[.tmp 15] #[5] rfl rfl Tryz.func63 (by kernel_rfl) (by kernel_rfl) #[.int .u8 (c.toNat : Int)] (by simp only [List.map_toArray, List.map_cons, List.map_nil]; rfl) ?_; (with_reducible (refine HO.out.mono ?_)); rintro e w1 ⟨rfl, rfl⟩; refine ⟨_, rfl, ?_⟩))
        go_round
        case rel => exact ⟨k + 1, by omega, by go_num, hn2⟩
        case measure => simp [intOf]; omega
      · rw [ho] at hodd
        have HO := Lib.hid hodd
        have hy2 : Hid (oddL l = true) := hy.out ho
        clear hodd hn hy ho
        go_wp2_with (first | go_skip | (refine call_fn rfl (.tmp 11) #[.tmp 15] #[5] rfl rfl Tryz.func63 (by kernel_rfl) (by kernel_rfl) #[.int .u8 (c.toNat : Int)] (by simp only [List.map_toArray, List.map_cons, List.map_nil]; rfl) ?_; (with_reducible (refine HO.out.mono ?_)); rintro e w1 ⟨rfl, rfl⟩; refine ⟨_, rfl, ?_⟩))
        go_ret
        exact ⟨⟨_, rfl, by rw [hy2.out]; simp⟩, rfl⟩
    · obtain rfl : k = l.length := by omega
      go_wp2_with fail
      go_ret
      refine ⟨⟨_, rfl, ?_⟩, rfl⟩
      have := H.out
      rw [List.take_length] at this
      unfold oddL; rw [this]; simp
set_option maxHeartbeats 1000000 in
theorem contains_any (l : List UInt8) (g cap : Nat) (w : World) (hl : l.length ≤ 9223372036854775806) (hc : ∀ j, j < l.length → w.cell? ⟨g, j, none⟩ = some (.int .u8 (l.getD j 0).toNat)) :
    Calls Tryz.prog 64 #[.slice (some ⟨g, 0, none⟩) l.length cap, .func (.func 63) #[] #[]] w fun e w' => e = .returned (.bool (oddL l)) ∧ w' = w := by
  have H := Lib.hid (index_any l g cap w hl hc)
  clear hc
  go_enter Tryz.func64, Tryz.ntmps64
  go_wp2_with (go_at_call 86; refine H.out.mono ?_; rintro e w1 ⟨⟨r, rfl, hr⟩, rfl⟩; have HR := Lib.hid hr; clear hr)
  go_ret
  exact ⟨ret_bool HR.out, rfl⟩
set_option maxRecDepth 100000 in
set_option maxHeartbeats 1000000 in
theorem stamp_any (s : ByteArray) (w : World) (hs : s.size ≤ 9223372036854775807) : Calls Tryz.prog 40 #[.string s] w fun e w' => e = .returned (.bool (stampB s)) ∧ Below w.heap.size w w' := by
  by_cases h1 : 1 ≤ s.size
  · have e1 : decide ((1 : Int) ≤ s.size) = true := by simp; omega
    have e1b : decide (1 ≤ s.size) = true := by simp; omega
    by_cases h2 : s.size ≤ 64
    · have e2 : decide ((s.size : Int) ≤ 64) = true := by simp; omega
      have e2b : decide (s.size ≤ 64) = true := by simp; omega
      have hh : Hid (stampB s = !(oddL s.data.toList)) := by unfold Hid stampB; simp [h1, h2]
      have hlen : s.data.toList.length = s.size := by rw [Lib.size_eq]
      have HC := Lib.hid (contains_any s.data.toList w.heap.size (grownCap w s.size 0 5) (Lib.bytesWorld w 5 s) (by rw [hlen]; omega) (fun j hj => Lib.bytesWorld_cell w 5 s j (by rw [hlen] at hj; exact hj)))
      have HB := Lib.hid (Joins.below_bytesWorld w.heap.size w 5 s (Nat.le_refl _))
      have HC := HC.out
      rw [hlen] at HC
      have HC := Lib.hid HC
      clear hlen
      go_enter Tryz.func40, Tryz.ntmps40
      go_wp2_with (first | go_skip | (rw [Lib.run_convert_string_bytes _ 9 31 5 _ Tryz.underlying9 Tryz.underlying31 Tryz.underlying5]) | (go_at_call 64; refine HC.out.mono ?_; rintro e w1 ⟨rfl, rfl⟩))
      go_ret
      exact ⟨ret_bool hh.out.symm, HB.out⟩
    · have e2 : decide ((s.size : Int) ≤ 64) = false := by simp; omega
      have e2b : decide (s.size ≤ 64) = false := by simp; omega
      have hh : Hid (stampB s = false) := by unfold Hid stampB; simp [h2]
      go_enter Tryz.func40, Tryz.ntmps40
      go_wp2
      go_ret
      exact ⟨ret_bool hh.out.symm, Below.refl _ _⟩
  · have e1 : decide ((1 : Int) ≤ s.size) = false := decide_eq_false (by omega)
    have e1b : decide (1 ≤ s.size) = false := decide_eq_false (by omega)
    have hh : Hid (stampB s = false) := by unfold Hid stampB; simp [h1]
    go_enter Tryz.func40, Tryz.ntmps40
    go_wp2
    go_ret
    exact ⟨ret_bool hh.out.symm, Below.refl _ _⟩
end Go.Proofs.YtcpmehppfccihaaGreatDoor
namespace Go.Proofs.YtcpmehppfccihaaGreatDoor
open Go.RowKit
set_option linter.unusedVariables false
set_option linter.unusedSimpArgs false
theorem gPow' : Tryz.prog.globalNamed "internal/strconv.uint64pow10" = some 5 := by kernel_rfl
theorem gRng' : Tryz.prog.globalNamed "strconv.ErrRange" = some 2 := by kernel_rfl
theorem gSyn' : Tryz.prog.globalNamed "strconv.ErrSyntax" = some 1 := by kernel_rfl
/-- Behind the last variable that is read. -/
def GV : Nat := max 5 (max 2 1) + 1
theorem var_lt {n : String} {g : Nat} {cs : Array Value} {w : World} (hn : Tryz.prog.globalNamed n = some g) (h : w.var? Tryz.prog n = some cs) : g < w.heap.size := by
  unfold World.var? at h
  rw [hn] at h
  simp only [Option.bind_some] at h
  rcases Nat.lt_or_ge g w.heap.size with h' | h'
  · exact h'
  · rw [Array.getElem?_eq_none h'] at h; cases h
theorem var_b {n : String} {g B : Nat} {cs : Array Value} {w w' : World} (hn : Tryz.prog.globalNamed n = some g) (h : w.var? Tryz.prog n = some cs) (hg : g < B) (hb : Below B w w') : w'.var? Tryz.prog n = some cs := by
  unfold World.var? at h ⊢
  rw [hn] at h ⊢
  simp only [Option.bind_some] at h ⊢
  rw [hb.block g hg]
  exact h
theorem Vars.big {w : World} (h : Vars w) : GV ≤ w.heap.size := by
  have h1 := var_lt gPow' h.tab
  obtain ⟨_, _, hs⟩ := h.syn
  have h2 := var_lt gSyn' hs
  obtain ⟨_, _, hr⟩ := h.rng
  have h3 := var_lt gRng' hr
  unfold GV
  omega
theorem Vars.stay (B : Nat) (w w' : World) (hB : GV ≤ B) (h : Vars w) (hb : Below B w w') : Vars w' := by
  have hB' := hB
  unfold GV at hB'
  exact ⟨var_b gPow' h.tab (by omega) hb, by obtain ⟨t, p, h⟩ := h.syn; exact ⟨t, p, var_b gSyn' h (by omega) hb⟩, by obtain ⟨t, p, h⟩ := h.rng; exact ⟨t, p, var_b gRng' h (by omega) hb⟩⟩
def ownV (t : VT) : Bool := ownB t (intN t.s.data.toList).isSome (goodN t.s.data.toList) (letC t.s == 0) (stampB t.s)
theorem own_v (t : VT) (W : World) (hw : Vars W) (ht : VT.In W.heap.size W t) : Calls Tryz.prog 70 #[.agg t.c] W fun e w' => e = .returned (.bool (ownV t)) ∧ Below W.heap.size W w' := by
  have hs := ht.here.sl
  refine own_any t _ _ _ _ W ?_ ?_ ?_ ?_
  · exact fun _ W' hB => (int_any t.s W' (hw.step hB) good_ascii).mono fun e w' ⟨he, hb⟩ => ⟨⟨_, he⟩, hb⟩
  · exact fun _ W' hB => good_any t.s W'
  · exact fun _ W' hB => (letters_any t.s W' hs).mono fun e w' ⟨he, hb⟩ => ⟨⟨_, he, rfl⟩, hb⟩
  · exact fun _ W' hB => stamp_any t.s W' hs
def goodT (t : VT) : Bool := (judgeT ownV letC t 1 0).1
theorem goodT_any (t : VT) (w : World) (hw : Vars w) (ht : VT.In w.heap.size w t) : Calls Tryz.prog 17 #[.agg t.c] w fun e w' => e = .returned (.bool (goodT t)) ∧ Below w.heap.size w w' :=
  vGood_any ownV letC GV Vars (fun B W W' hB hW hb => Vars.stay B W W' hB hW hb) own_v (fun s W _ hs => letters_any s W hs) t w hw hw.big ht
end Go.Proofs.YtcpmehppfccihaaGreatDoor
