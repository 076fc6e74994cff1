/-
  What dec reads has digits alone, none of them a nought ahead, and a power within bounds. No condition.
  The shelf's contracts at this dump, under a second name. No condition.
  dec.Good, walked: what it computes, in plain Lean. No condition.
  dec.Int, walked. Condition: the library's variables read as the library lays them.
  From a row's list of the library's variables to what they hold. No condition.
  A number's text is of ASCII letters, and at most 400 of them. No condition.
-/
import Derived.Test.YtffcpmohanhihaaGreatDoorJ3
import Derived.Test.YtffcpmohanhihaaGreatDoorShelfJ
import Derived.Lib.LaidTab
import Derived.Test.YtffcpmohanhihaaGreatDoorJ2
import Derived.Test.YtffcpmohanhihaaGreatDoorRows
import Derived.Stop.LaidErr
import Derived.MakeChecks
namespace Go.Proofs.YtffcpmohanhihaaGreatDoor
set_option linter.unusedVariables false
theorem take_dig (l : List UInt8) : l.take (digN l) = l.takeWhile isDig := by
  induction l with
  | nil => rfl
  | cons c l ih =>
    rw [digN_cons, List.takeWhile_cons]
    split
    · rw [List.take_succ_cons, ih]
    · rfl
theorem takeWhile_all {l : List UInt8} {p : UInt8 → Bool} {c : UInt8} (h : c ∈ l.takeWhile p) : p c = true := by
  induction l with
  | nil => simp at h
  | cons a l ih =>
    rw [List.takeWhile_cons] at h
    split at h
    · rcases List.mem_cons.1 h with rfl | h
      · assumption
      · exact ih h
    · simp at h
structure Shape (x : Bool × List UInt8 × Int) : Prop where
  dig : ∀ c ∈ x.2.1, isDig c = true
  head : x.2.1.head? ≠ some 48
  len : x.2.1.length ≤ 800
  lo : -101000 ≤ x.2.2
  hi : x.2.2 ≤ 101000
theorem trimRight_pre (l : List UInt8) (c : UInt8) : ∃ t, l = Lib.trimRightB l c ++ t := by
  obtain ⟨t, ht⟩ := List.dropWhile_suffix (l := l.reverse) (· == c)
  refine ⟨t.reverse, ?_⟩
  have := congrArg List.reverse ht
  rw [List.reverse_append, List.reverse_reverse] at this
  exact this.symm
theorem dropWhile_head (l : List UInt8) (c : UInt8) : (l.dropWhile (· == c)).head? ≠ some c := by
  induction l with
  | nil => simp
  | cons a l ih =>
    rw [List.dropWhile_cons]
    split
    · exact ih
    · rename_i h
      simp at h ⊢
      exact h
theorem norm_shape {b : Bool} {W P : List UInt8} {e : Int} (hW : ∀ c ∈ W, isDig c = true) (hP : ∀ c ∈ P, isDig c = true) (h0 : 1 ≤ W.length) (h1 : W.length ≤ 400) (h2 : P.length ≤ 400) (he1 : -100000 ≤ e) (he2 : e ≤ 100000) : Shape (normN b W P e) := by
  unfold normN
  split
  · exact ⟨by simp, by simp, by simp, by simp, by simp⟩
  · rename_i hne
    obtain ⟨t, ht⟩ := trimRight_pre (Lib.trimLeftB (W ++ P) 48) 48
    have hle := trimLeftB_le (W ++ P) 48
    have hlen : (W ++ P).length = W.length + P.length := List.length_append
    have hsuf : ∀ c ∈ Lib.trimLeftB (W ++ P) 48, isDig c = true := fun c hc => by
      have : c ∈ W ++ P := (List.dropWhile_suffix _).subset hc
      rcases List.mem_append.1 this with h | h
      · exact hW c h
      · exact hP c h
    have hlt := congrArg List.length ht
    rw [List.length_append] at hlt
    refine ⟨fun c hc => hsuf c (by rw [ht]; exact List.mem_append_left _ hc), fun h => ?_, by simp only; omega, by simp only; omega, by simp only; omega⟩
    have hh : (Lib.trimLeftB (W ++ P) 48).head? = some 48 := by
      rw [ht]
      simp only at h
      cases hq : Lib.trimRightB (Lib.trimLeftB (W ++ P) 48) 48 with
      | nil => rw [hq] at h; simp at h
      | cons a l => rw [hq] at h; simpa using h
    exact dropWhile_head (W ++ P) 48 hh
theorem parse_shape {l : List UInt8} {x : Bool × List UInt8 × Int} (h : parseN l = some x) : Shape x := by
  unfold parseN at h
  split at h
  · cases h
  rename_i hl
  split at h
  · cases h
  rename_i hd
  obtain ⟨pr, hpr, h⟩ := Option.bind_eq_some_iff.1 h
  obtain ⟨e, he, h⟩ := Option.map_eq_some_iff.1 h
  subst h
  have hRl : (Lib.trimPrefix l [45]).length ≤ 400 := Nat.le_trans (Lib.trimPrefix_le _ _) (by omega)
  have hdl := digN_le (Lib.trimPrefix l [45])
  have hdl0 : digN (Lib.trimPrefix l [45]) ≠ 0 := fun h => hd (.inl h)
  have hP : (∀ c ∈ pr.1, isDig c = true) ∧ pr.1.length ≤ 400 := by
    unfold partN at hpr
    split at hpr
    · split at hpr
      · cases hpr
      · cases hpr
        refine ⟨fun c hc => ?_, ?_⟩
        · rw [take_dig] at hc; exact takeWhile_all hc
        · simp only [List.length_take, List.length_drop]; omega
    · cases hpr; simp
  have hE : -100000 ≤ e ∧ e ≤ 100000 := by
    unfold expN at he
    split at he
    · cases he; simp
    · split at he
      · exact powerN_range he
      · cases he
  refine norm_shape (fun c hc => ?_) hP.1 ?_ ?_ hP.2 hE.1 hE.2
  · rw [take_dig] at hc; exact takeWhile_all hc
  · rw [List.length_take]; omega
  · rw [List.length_take]; omega
end Go.Proofs.YtffcpmohanhihaaGreatDoor
namespace Go.Proofs.YtffcpmohanhihaaGreatDoor
open Go.RowKit
set_option linter.unusedVariables false
set_option linter.unusedSimpArgs false
abbrev Num := Bool × List UInt8 × Int
def goodN (l : List UInt8) : Bool := (parseN l).isSome
def wholeN (l : List UInt8) : Bool := match parseN l with | none => false | some x => decide (x.2.1 = []) || decide (((x.2.1.length : Int) - 1) ≤ x.2.2)
def signN (x : Num) : Int := if x.2.1 = [] then 0 else if x.1 = true then -1 else 1
def sizeN (a b : Num) : Int := if a.2.2 ≠ b.2.2 then Lib.compareInt a.2.2 b.2.2 else Lib.compareBytes a.2.1 b.2.1
def cmpNum (x y : Num) : Int := if signN x ≠ signN y then Lib.compareInt (signN x) (signN y) else signN x * sizeN x y
def cmpN (a b : List UInt8) : Int := match parseN a, parseN b with
  | none, none => 0
  | none, some _ => -1
  | some _, none => 1
  | some x, some y => cmpNum x y
theorem parseV_none : parseV none = .tuple #[.agg #[.bool false, .string ⟨#[]⟩, .int .i64 0], .bool false] := rfl
theorem parseV_some (x : Num) : parseV (some x) = .tuple #[.agg #[.bool x.1, .string ⟨x.2.1.toArray⟩, .int .i64 x.2.2], .bool true] := rfl
set_option maxHeartbeats 1000000 in
theorem good_any (s : ByteArray) (w : World) : Calls Tryz.prog 145 #[.string s] w fun e w' => e = .returned (.bool (goodN s.data.toList)) ∧ Below w.heap.size w w' := by
  unfold goodN
  cases hp0 : parseN s.data.toList with
  | none =>
    have hp : parseV (parseN s.data.toList) = .tuple #[.agg #[.bool false, .string ⟨#[]⟩, .int .i64 0], .bool false] := by rw [hp0]; rfl
    go_enter Tryz.func145, Tryz.ntmps145
    go_wp2_with (go_at_call 157; refine (parse_any _ _).mono ?_; rintro e w1 ⟨rfl, hb1⟩; rw [hp]; have hbb := Lib.hid hb1; clear hb1)
    go_ret
    exact ⟨rfl, by (repeat (first | exact Below.refl _ _ | exact hbb.out | (refine Below.alloc ?_ (by first | exact Nat.le_refl _ | exact hbb.out.size | (have := hbb.out.size; simp; omega) | (simp; done)) _)))⟩
  | some x =>
    obtain ⟨b, D, p⟩ := x
    have hp : parseV (parseN s.data.toList) = .tuple #[.agg #[.bool b, .string ⟨D.toArray⟩, .int .i64 p], .bool true] := by rw [hp0]; rfl
    go_enter Tryz.func145, Tryz.ntmps145
    go_wp2_with (go_at_call 157; refine (parse_any _ _).mono ?_; rintro e w1 ⟨rfl, hb1⟩; rw [hp]; have hbb := Lib.hid hb1; clear hb1)
    go_ret
    exact ⟨rfl, by (repeat (first | exact Below.refl _ _ | exact hbb.out | (refine Below.alloc ?_ (by first | exact Nat.le_refl _ | exact hbb.out.size | (have := hbb.out.size; simp; omega) | (simp; done)) _)))⟩
end Go.Proofs.YtffcpmohanhihaaGreatDoor
namespace Go.Proofs.YtffcpmohanhihaaGreatDoor
open Go.RowKit
set_option linter.unusedVariables false
set_option linter.unusedSimpArgs false
abbrev Pow10 (w : World) : Prop := Lib.TabIs Tryz.prog w "internal/strconv.uint64pow10" .u64 Lib.pow10Tab
theorem var_step {P : Program} {n : String} {cs : Array Value} {w w' : World} (h : w.var? P n = some cs) (hb : Below w.heap.size w w') : w'.var? P n = some cs := by
  unfold World.var? at h ⊢
  cases hg : P.globalNamed n with
  | none => rw [hg] at h; simp at h
  | some g =>
    rw [hg] at h
    simp only [Option.bind_some] at h ⊢
    have hlt : g < w.heap.size := by
      rcases Nat.lt_or_ge g w.heap.size with h' | h'
      · exact h'
      · rw [Array.getElem?_eq_none h'] at h; cases h
    rw [hb.block g hlt]
    exact h
theorem pow10_step {w w' : World} (h : Pow10 w) (hb : Below w.heap.size w w') : Pow10 w' := var_step h hb
theorem ba_ext {a b : ByteArray} (h : a.data.toList = b.data.toList) : a = b := by
  cases a; cases b; simp at h; rw [h]
/-- The library's variables, as it lays them. -/
structure Vars (w : World) : Prop where
  tab : Pow10 w
  syn : ∃ t p, w.var? Tryz.prog "strconv.ErrSyntax" = some #[.iface t p]
  rng : ∃ t p, w.var? Tryz.prog "strconv.ErrRange" = some #[.iface t p]
theorem Vars.step {w w' : World} (h : Vars w) (hb : Below w.heap.size w w') : Vars w' :=
  ⟨var_step h.tab hb, by obtain ⟨t, p, h⟩ := h.syn; exact ⟨t, p, var_step h hb⟩, by obtain ⟨t, p, h⟩ := h.rng; exact ⟨t, p, var_step h hb⟩⟩
def intN (l : List UInt8) : Option Int := if goodN l = true ∧ Lib.containsAny l [46, 101, 69] = false ∧ l ≠ [45, 48] then (match Lib.parseIntB 64 l with | .ok v => some v | _ => none) else none
theorem ba_toList {s : ByteArray} {l : List UInt8} : s.toList = l ↔ s.data.toList = l := by rw [Lib.toList_data]
theorem chars_ascii : ∀ (j : Nat) b, (⟨#[46, 101, 69]⟩ : ByteArray).data.toList[j]? = some b → b.toNat < 128 := by
  intro j b hb
  have : b ∈ ([46, 101, 69] : List UInt8) := List.mem_of_getElem? hb
  simp at this
  rcases this with rfl | rfl | rfl <;> decide
abbrev DotE : List UInt8 := (⟨#[46, 101, 69]⟩ : ByteArray).data.toList
set_option maxHeartbeats 1000000 in
theorem int_bad (s : ByteArray) (w : World) (hg : goodN s.data.toList = false) : Calls Tryz.prog 144 #[.string s] w fun e w' => e = .returned (.tuple #[.int .i64 0, .bool false]) ∧ Below w.heap.size w w' := by
  have HG := Lib.hid hg
  clear hg
  go_enter Tryz.func144, Tryz.ntmps144
  go_wp2_with (go_at_call 145; refine (good_any _ _).mono ?_; rintro e w1 ⟨rfl, hb1⟩; rw [HG.out]; have hbb := Lib.hid hb1; clear hb1)
  go_ret2
  exact ⟨rfl, hbb.out⟩
set_option maxHeartbeats 1000000 in
theorem int_dot (s : ByteArray) (w : World) (hg : goodN s.data.toList = true) (hc : Lib.containsAny s.data.toList DotE = true) (hsz : s.size < 4294967281) (has : ∀ (j : Nat) b, s.data.toList[j]? = some b → b.toNat < 128) : Calls Tryz.prog 144 #[.string s] w fun e w' => e = .returned (.tuple #[.int .i64 0, .bool false]) ∧ Below w.heap.size w w' := by
  have HG := Lib.hid hg
  have HC := Lib.hid hc
  have Has := Lib.hid has
  have Hac := Lib.hid chars_ascii
  clear hg hc has
  go_enter Tryz.func144, Tryz.ntmps144
  go_wp2_with (first | (go_at_call 145; refine (good_any _ _).mono ?_; rintro e w1 ⟨rfl, hb1⟩; rw [HG.out]; have hbb := Lib.hid hb1; clear hb1) | (go_at_call 155; refine (Tryz.strings_ContainsAny_laid _ _ _ hsz (by decide) Has.out Hac.out).mono ?_; rintro e w2 ⟨rfl, hb2⟩; rw [HC.out]; have hbb0 := hbb; clear hbb; have hbb := Lib.hid (below_then hbb0.out hbb0.out.size hb2); clear hb2 hbb0))
  go_ret2
  exact ⟨rfl, hbb.out⟩
set_option maxHeartbeats 1000000 in
theorem int_minus (s : ByteArray) (w : World) (hg : goodN s.data.toList = true) (hc : Lib.containsAny s.data.toList DotE = false) (hs : s.toList = [45, 48]) (hsz : s.size < 4294967281) (has : ∀ (j : Nat) b, s.data.toList[j]? = some b → b.toNat < 128) : Calls Tryz.prog 144 #[.string s] w fun e w' => e = .returned (.tuple #[.int .i64 0, .bool false]) ∧ Below w.heap.size w w' := by
  have HG := Lib.hid hg
  have HC := Lib.hid hc
  have Has := Lib.hid has
  have Hac := Lib.hid chars_ascii
  clear hg hc has
  go_enter Tryz.func144, Tryz.ntmps144
  go_wp2_with (first | (go_at_call 145; refine (good_any _ _).mono ?_; rintro e w1 ⟨rfl, hb1⟩; rw [HG.out]; have hbb := Lib.hid hb1; clear hb1) | (go_at_call 155; refine (Tryz.strings_ContainsAny_laid _ _ _ hsz (by decide) Has.out Hac.out).mono ?_; rintro e w2 ⟨rfl, hb2⟩; rw [HC.out]; have hbb0 := hbb; clear hbb; have hbb := Lib.hid (below_then hbb0.out hbb0.out.size hb2); clear hb2 hbb0))
  go_ret2
  exact ⟨rfl, hbb.out⟩
theorem bytes_below {w w' : World} {t : TypeId} (h : w' = w ∨ ∃ s, w' = Lib.bytesWorld w t s) : Below w.heap.size w w' := by
  rcases h with rfl | ⟨s, rfl⟩
  · exact Below.refl _ _
  · exact Joins.below_bytesWorld _ _ _ _ (Nat.le_refl _)
set_option maxHeartbeats 1000000 in
theorem int_ok (s : ByteArray) (w : World) (hg : goodN s.data.toList = true) (hc : Lib.containsAny s.data.toList DotE = false) (hs : ¬ s.toList = [45, 48]) (hsz : s.size < 4294967281) (hs8 : s.size ≤ 9223372036854775806) (has : ∀ (j : Nat) b, s.data.toList[j]? = some b → b.toNat < 128) (v : Int) (hp : Lib.parseIntB 64 s.data.toList = .ok v) : Calls Tryz.prog 144 #[.string s] w fun e w' => e = .returned (.tuple #[.int .i64 v, .bool true]) ∧ Below w.heap.size w w' := by
  have HG := Lib.hid hg
  have HC := Lib.hid hc
  have Has := Lib.hid has
  have Hac := Lib.hid chars_ascii
  have Hp := Lib.hid hp
  have hse : (s.toList == [45, 48]) = false := by simp [hs]
  clear hg hc has hp
  go_enter Tryz.func144, Tryz.ntmps144
  go_wp2_with (first | (go_at_call 145; refine (good_any _ _).mono ?_; rintro e w1 ⟨rfl, hb1⟩; rw [HG.out]; have hbb := Lib.hid hb1; clear hb1) | (go_at_call 155; refine (Tryz.strings_ContainsAny_laid _ _ _ hsz (by decide) Has.out Hac.out).mono ?_; rintro e w2 ⟨rfl, hb2⟩; rw [HC.out]; have hbb0 := hbb; clear hbb; have hbb := Lib.hid (below_then hbb0.out hbb0.out.size hb2); clear hb2 hbb0) | (go_at_call 156; refine (Tryz.strconv_ParseInt_10_at64_ok _ hs8 _ Hp.out _).mono ?_; rintro e w3 ⟨rfl, hw⟩; have hbb0 := hbb; clear hbb; have hbb := Lib.hid (below_then hbb0.out hbb0.out.size (bytes_below hw)); clear hw hbb0))
  go_ret2
  exact ⟨rfl, hbb.out⟩
set_option maxHeartbeats 1000000 in
  theorem int_syn (s : ByteArray) (w : World) (hg : goodN s.data.toList = true) (hc : Lib.containsAny s.data.toList DotE = false) (hs : ¬ s.toList = [45, 48]) (hsz : s.size < 4294967281) (hs8 : s.size ≤ 281474976710656) (has : ∀ (j : Nat) b, s.data.toList[j]? = some b → b.toNat < 128) (hp : Lib.parseIntB 64 s.data.toList = Lib.parseIntB 64 []) (ty : TypeId) (p : Value) (hv : w.var? Tryz.prog "strconv.ErrSyntax" = some #[.iface ty p]) : Calls Tryz.prog 144 #[.string s] w fun e w' => e = .returned (.tuple #[.int .i64 0, .bool false]) ∧ Below w.heap.size w w' := by
    have HG := Lib.hid hg
    have HC := Lib.hid hc
    have Has := Lib.hid has
    have Hac := Lib.hid chars_ascii
    have Hp := Lib.hid hp
    have Hv := Lib.hid hv
    have hse : (s.toList == [45, 48]) = false := by simp [hs]
    clear hg hc has hp hv
    go_enter Tryz.func144, Tryz.ntmps144
    go_wp2_with (first | (go_at_call 145; refine (good_any _ _).mono ?_; rintro e w1 ⟨rfl, hb1⟩; rw [HG.out]; have hbb := Lib.hid hb1; clear hb1) | (go_at_call 155; refine (Tryz.strings_ContainsAny_laid _ _ _ hsz (by decide) Has.out Hac.out).mono ?_; rintro e w2 ⟨rfl, hb2⟩; rw [HC.out]; have hbb0 := hbb; clear hbb; have hbb := Lib.hid (below_then hbb0.out hbb0.out.size hb2); clear hb2 hbb0) | (go_at_call 156; refine (Tryz.strconv_ParseInt_10_at64_syntax_var _ hs8 Hp.out _ _ _ (var_step Hv.out hbb.out)).mono ?_; rintro e w3 ⟨N, rfl, -, -, hb3⟩; have hbb0 := hbb; clear hbb; have hbb := Lib.hid (below_then hbb0.out hbb0.out.size hb3); clear hb3 hbb0))
    go_ret2
    exact ⟨rfl, hbb.out⟩
set_option maxHeartbeats 1000000 in
theorem int_range (s : ByteArray) (w : World) (hg : goodN s.data.toList = true) (hc : Lib.containsAny s.data.toList DotE = false) (hs : ¬ s.toList = [45, 48]) (hsz : s.size < 4294967281) (hs8 : s.size ≤ 281474976710656) (has : ∀ (j : Nat) b, s.data.toList[j]? = some b → b.toNat < 128) (hp : Lib.parseIntB 64 s.data.toList = .range) (ty : TypeId) (p : Value) (hv : w.var? Tryz.prog "strconv.ErrRange" = some #[.iface ty p]) : Calls Tryz.prog 144 #[.string s] w fun e w' => e = .returned (.tuple #[.int .i64 0, .bool false]) ∧ Below w.heap.size w w' := by
  have HG := Lib.hid hg
  have HC := Lib.hid hc
  have Has := Lib.hid has
  have Hac := Lib.hid chars_ascii
  have Hp := Lib.hid hp
  have Hv := Lib.hid hv
  have hse : (s.toList == [45, 48]) = false := by simp [hs]
  clear hg hc has hp hv
  go_enter Tryz.func144, Tryz.ntmps144
  go_wp2_with (first | (go_at_call 145; refine (good_any _ _).mono ?_; rintro e w1 ⟨rfl, hb1⟩; rw [HG.out]; have hbb := Lib.hid hb1; clear hb1) | (go_at_call 155; refine (Tryz.strings_ContainsAny_laid _ _ _ hsz (by decide) Has.out Hac.out).mono ?_; rintro e w2 ⟨rfl, hb2⟩; rw [HC.out]; have hbb0 := hbb; clear hbb; have hbb := Lib.hid (below_then hbb0.out hbb0.out.size hb2); clear hb2 hbb0) | (go_at_call 156; refine (Tryz.strconv_ParseInt_10_at64_range_var _ hs8 Hp.out _ _ _ (var_step Hv.out hbb.out)).mono ?_; rintro e w3 ⟨N, rfl, -, -, hb3⟩; have hbb0 := hbb; clear hbb; have hbb := Lib.hid (below_then hbb0.out hbb0.out.size hb3); clear hb3 hbb0))
  go_ret2
  exact ⟨rfl, hbb.out⟩
theorem int_any (s : ByteArray) (w : World) (hw : Vars w) (hgood : goodN s.data.toList = true → s.size ≤ 400 ∧ ∀ (j : Nat) b, s.data.toList[j]? = some b → b.toNat < 128) : Calls Tryz.prog 144 #[.string s] w fun e w' => e = .returned (.tuple #[.int .i64 ((intN s.data.toList).getD 0), .bool (intN s.data.toList).isSome]) ∧ Below w.heap.size w w' := by
  cases hg : goodN s.data.toList with
  | false =>
    have : intN s.data.toList = none := by unfold intN; rw [if_neg (by simp [hg])]
    rw [this]; exact int_bad s w hg
  | true =>
    obtain ⟨hsz, has⟩ := hgood hg
    cases hc : Lib.containsAny s.data.toList DotE with
    | true =>
      have : intN s.data.toList = none := by unfold intN; rw [if_neg (fun h => by have h2 : Lib.containsAny s.data.toList DotE = false := h.2.1; rw [hc] at h2; cases h2)]
      rw [this]; exact int_dot s w hg hc (by omega) has
    | false =>
      by_cases hs : s.toList = [45, 48]
      · have : intN s.data.toList = none := by unfold intN; rw [if_neg (fun h => h.2.2 (ba_toList.1 hs))]
        rw [this]; exact int_minus s w hg hc hs (by omega) has
      · have hi : intN s.data.toList = (match Lib.parseIntB 64 s.data.toList with | .ok v => some v | _ => none) := by unfold intN; rw [if_pos ⟨hg, hc, fun h => hs (ba_toList.2 h)⟩]
        cases hp : Lib.parseIntB 64 s.data.toList
        · rename_i v; rw [hp] at hi; rw [hi]; exact int_ok s w hg hc hs (by omega) (by omega) has v hp
        · rw [hp] at hi; rw [hi]; obtain ⟨ty, p, hv⟩ := hw.syn; exact int_syn s w hg hc hs (by omega) (by omega) has hp ty p hv
        · rw [hp] at hi; rw [hi]; obtain ⟨ty, p, hv⟩ := hw.rng; exact int_range s w hg hc hs (by omega) (by omega) has hp ty p hv
end Go.Proofs.YtffcpmohanhihaaGreatDoor
namespace Go.Proofs.YtffcpmohanhihaaGreatDoor
open Go.RowKit Go.ChangeShapes
theorem gPow : Tryz.prog.globalNamed "internal/strconv.uint64pow10" = some 5 := by kernel_rfl
theorem gPowT : (Tryz.prog.globals[(5 : Nat)]?).map (·.type) = some 252 := by kernel_rfl
theorem gRng : Tryz.prog.globalNamed "strconv.ErrRange" = some 1 := by kernel_rfl
theorem gRngT : (Tryz.prog.globals[(1 : Nat)]?).map (·.type) = some 199 := by kernel_rfl
theorem gSyn : Tryz.prog.globalNamed "strconv.ErrSyntax" = some 0 := by kernel_rfl
theorem gSynT : (Tryz.prog.globals[(0 : Nat)]?).map (·.type) = some 199 := by kernel_rfl
theorem rowErr (u : TypeId) (h : Tryz.prog.typeName? 3 u = some "*errors.errorString") : u = 239 :=
  have star : "*" ++ "errors.errorString" = "*errors.errorString" := by decide
  typeName_ptr_named (nm := "errors.errorString") (by rw [star]; kernel_rfl) (by kernel_rfl) (by decide) u (by rw [star]; exact h)
theorem vars_of_laid {W : World} (h0 : laidMetH Tryz.prog Rows.readyKnownRow.laid W) : Vars W := by
  rw [MakeChecks.laidMetH_plain _ _ _ (by kernel_rfl)] at h0
  have h2 := h0.tail.tail
  have h4 := h2.tail.tail
  have h5 := h4.tail
  have e : Rows.laid_internal_strconv_uint64pow10 (H := Unit) = Lib.tabData .u64 Lib.pow10Tab := by kernel_rfl
  refine ⟨?_, ?_, ?_⟩
  · have h2' : laidMet Tryz.prog (("internal/strconv.uint64pow10", Lib.tabData .u64 Lib.pow10Tab) :: _) W := e ▸ h2
    exact Lib.tabIs_of_head gPow gPowT Tryz.underlying252 Tryz.underlying190 (by kernel_rfl) (by kernel_rfl) h2'
  · obtain ⟨a, s, hv, _⟩ := laid_sentinel h5 gSyn gSynT Tryz.underlying199 rowErr Tryz.underlying239 Tryz.underlying241 rfl rfl Tryz.underlying9 (by kernel_rfl) (by kernel_rfl)
    exact ⟨_, _, hv⟩
  · obtain ⟨a, s, hv, _⟩ := laid_sentinel h4 gRng gRngT Tryz.underlying199 rowErr Tryz.underlying239 Tryz.underlying241 rfl rfl Tryz.underlying9 (by kernel_rfl) (by kernel_rfl)
    exact ⟨_, _, hv⟩
end Go.Proofs.YtffcpmohanhihaaGreatDoor
namespace Go.Proofs.YtffcpmohanhihaaGreatDoor
set_option linter.unusedVariables false
def Asc (l : List UInt8) : Prop := ∀ c ∈ l, c.toNat < 128
theorem isDig_asc {c : UInt8} (h : isDig c = true) : c.toNat < 128 := by simp [isDig] at h; omega
theorem Asc.append {a b : List UInt8} (ha : Asc a) (hb : Asc b) : Asc (a ++ b) := fun c hc => by
  rcases List.mem_append.1 hc with h | h
  · exact ha c h
  · exact hb c h
theorem prefix_one {l : List UInt8} {k : UInt8} (h : Lib.hasPrefix l [k] = true) : l = k :: l.drop 1 := by
  cases l with
  | nil => simp [Lib.hasPrefix] at h
  | cons c l =>
    have : k = c := by simpa [Lib.hasPrefix] using h
    rw [this]; rfl
theorem asc_cons {k : UInt8} {l : List UInt8} (hk : k.toNat < 128) (h : Asc l) : Asc (k :: l) := fun c hc => by
  rcases List.mem_cons.1 hc with rfl | hc
  · exact hk
  · exact h c hc
theorem powerN_asc {l : List UInt8} {q : Int} (h : powerN l = some q) : Asc l := by
  unfold powerN at h
  split at h
  · cases h
  · rename_i hn
    have hd : digN (signed l) = (signed l).length := by
      by_cases he : digN (signed l) = (signed l).length
      · exact he
      · exact absurd (.inr he) hn
    have hs : Asc (signed l) := fun c hc => by
      rw [← List.take_length (l := signed l), ← hd, take_dig] at hc
      exact isDig_asc (takeWhile_all hc)
    unfold signed at hs
    by_cases h1 : Lib.hasPrefix l [45] = true
    · rw [h1] at hs; rw [prefix_one h1]; exact asc_cons (by decide) hs
    · by_cases h2 : Lib.hasPrefix l [43] = true
      · rw [h2, Bool.or_true] at hs; rw [prefix_one h2]; exact asc_cons (by decide) hs
      · rw [if_neg (by simp [h1, h2])] at hs; exact hs
theorem parse_asc {l : List UInt8} {x : Num} (h : parseN l = some x) : l.length ≤ 400 ∧ Asc l := by
  unfold parseN at h
  split at h
  · cases h
  rename_i hl
  split at h
  · cases h
  rename_i hd
  obtain ⟨pr, hpr, h⟩ := Option.bind_eq_some_iff.1 h
  obtain ⟨e, he, h⟩ := Option.map_eq_some_iff.1 h
  refine ⟨by omega, ?_⟩
  have hE : Asc pr.2 := by
    unfold expN at he
    split at he
    · rename_i h0; rw [h0]; exact fun c hc => by cases hc
    · rename_i c r h0
      rw [h0]
      split at he
      · rename_i hc
        refine asc_cons ?_ (powerN_asc he)
        rcases hc with rfl | rfl <;> decide
      · cases he
  have hD : Asc ((Lib.trimPrefix l [45]).drop (digN (Lib.trimPrefix l [45]))) := by
    generalize (Lib.trimPrefix l [45]).drop (digN (Lib.trimPrefix l [45])) = r at hpr
    unfold partN at hpr
    split at hpr
    · rename_i h46
      split at hpr
      · cases hpr
      · cases hpr
        rw [prefix_one h46]
        refine asc_cons (by decide) ?_
        rw [← List.take_append_drop (digN (r.drop 1)) (r.drop 1)]
        refine Asc.append (fun c hc => ?_) ?_
        · rw [take_dig] at hc; exact isDig_asc (takeWhile_all hc)
        · rw [List.drop_drop, Nat.add_comm]; exact hE
    · cases hpr; exact hE
  have hR : Asc (Lib.trimPrefix l [45]) := by
    rw [← List.take_append_drop (digN (Lib.trimPrefix l [45])) (Lib.trimPrefix l [45])]
    refine Asc.append (fun c hc => ?_) hD
    rw [take_dig] at hc; exact isDig_asc (takeWhile_all hc)
  unfold Lib.trimPrefix at hR
  split at hR
  · rename_i h45; rw [prefix_one h45]; exact asc_cons (by decide) hR
  · exact hR
theorem good_ascii {s : ByteArray} (h : goodN s.data.toList = true) : s.size ≤ 400 ∧ ∀ (j : Nat) b, s.data.toList[j]? = some b → b.toNat < 128 := by
  unfold goodN at h
  obtain ⟨x, hx⟩ := Option.isSome_iff_exists.1 h
  obtain ⟨h1, h2⟩ := parse_asc hx
  exact ⟨by rw [Lib.size_eq]; exact h1, fun j b hb => h2 b (List.mem_of_getElem? hb)⟩
end Go.Proofs.YtffcpmohanhihaaGreatDoor
