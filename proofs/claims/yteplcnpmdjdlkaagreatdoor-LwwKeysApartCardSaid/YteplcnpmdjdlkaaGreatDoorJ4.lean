/-
  dec.Int, walked. Condition: the library's variables read as the library lays them.
  From a row's list of the library's variables to what they hold. No condition.
-/
import Derived.Test.YteplcnpmdjdlkaaGreatDoorJ3
import Derived.Test.YteplcnpmdjdlkaaGreatDoorJ2
import Derived.Test.YteplcnpmdjdlkaaGreatDoorRows
import Derived.Stop.LaidErr
import Derived.MakeChecks
import Derived.Lib.LaidTab
namespace Go.Proofs.YteplcnpmdjdlkaaGreatDoor
open Go.RowKit
set_option linter.unusedVariables false
set_option linter.unusedSimpArgs false
abbrev Pow10 (w : World) : Prop := Lib.TabIs Tryz.prog w "internal/strconv.uint64pow10" .u64 Lib.pow10Tab
theorem var_step {P : Program} {n : String} {cs : Array Value} {w w' : World} (h : w.var? P n = some cs) (hb : Below w.heap.size w w') : w'.var? P n = some cs := by
  unfold World.var? at h ⊢
  cases hg : P.globalNamed n with
  | none => rw [hg] at h; simp at h
  | some g =>
    rw [hg] at h
    simp only [Option.bind_some] at h ⊢
    have hlt : g < w.heap.size := by
      rcases Nat.lt_or_ge g w.heap.size with h' | h'
      · exact h'
      · rw [Array.getElem?_eq_none h'] at h; cases h
    rw [hb.block g hlt]
    exact h
theorem pow10_step {w w' : World} (h : Pow10 w) (hb : Below w.heap.size w w') : Pow10 w' := var_step h hb
theorem ba_ext {a b : ByteArray} (h : a.data.toList = b.data.toList) : a = b := by
  cases a; cases b; simp at h; rw [h]
/-- The library's variables, as it lays them. -/
structure Vars (w : World) : Prop where
  tab : Pow10 w
  syn : ∃ t p, w.var? Tryz.prog "strconv.ErrSyntax" = some #[.iface t p]
  rng : ∃ t p, w.var? Tryz.prog "strconv.ErrRange" = some #[.iface t p]
theorem Vars.step {w w' : World} (h : Vars w) (hb : Below w.heap.size w w') : Vars w' :=
  ⟨var_step h.tab hb, by obtain ⟨t, p, h⟩ := h.syn; exact ⟨t, p, var_step h hb⟩, by obtain ⟨t, p, h⟩ := h.rng; exact ⟨t, p, var_step h hb⟩⟩
def intN (l : List UInt8) : Option Int := if goodN l = true ∧ Lib.containsAny l [46, 101, 69] = false ∧ l ≠ [45, 48] then (match Lib.parseIntB 64 l with | .ok v => some v | _ => none) else none
theorem ba_toList {s : ByteArray} {l : List UInt8} : s.toList = l ↔ s.data.toList = l := by rw [Lib.toList_data]
theorem chars_ascii : ∀ (j : Nat) b, (⟨#[46, 101, 69]⟩ : ByteArray).data.toList[j]? = some b → b.toNat < 128 := by
  intro j b hb
  have : b ∈ ([46, 101, 69] : List UInt8) := List.mem_of_getElem? hb
  simp at this
  rcases this with rfl | rfl | rfl <;> decide
abbrev DotE : List UInt8 := (⟨#[46, 101, 69]⟩ : ByteArray).data.toList
set_option maxHeartbeats 1000000 in
theorem int_bad (s : ByteArray) (w : World) (hg : goodN s.data.toList = false) : Calls Tryz.prog 99 #[.string s] w fun e w' => e = .returned (.tuple #[.int .i64 0, .bool false]) ∧ Below w.heap.size w w' := by
  have HG := Lib.hid hg
  clear hg
  go_enter Tryz.func99, Tryz.ntmps99
  go_wp2_with (go_at_call 100; refine (good_any _ _).mono ?_; rintro e w1 ⟨rfl, hb1⟩; rw [HG.out]; have hbb := Lib.hid hb1; clear hb1)
  go_ret2
  exact ⟨rfl, hbb.out⟩
set_option maxHeartbeats 1000000 in
theorem int_dot (s : ByteArray) (w : World) (hg : goodN s.data.toList = true) (hc : Lib.containsAny s.data.toList DotE = true) (hsz : s.size < 4294967281) (has : ∀ (j : Nat) b, s.data.toList[j]? = some b → b.toNat < 128) : Calls Tryz.prog 99 #[.string s] w fun e w' => e = .returned (.tuple #[.int .i64 0, .bool false]) ∧ Below w.heap.size w w' := by
  have HG := Lib.hid hg
  have HC := Lib.hid hc
  have Has := Lib.hid has
  have Hac := Lib.hid chars_ascii
  clear hg hc has
  go_enter Tryz.func99, Tryz.ntmps99
  go_wp2_with (first | (go_at_call 100; refine (good_any _ _).mono ?_; rintro e w1 ⟨rfl, hb1⟩; rw [HG.out]; have hbb := Lib.hid hb1; clear hb1) | (go_at_call 103; refine (Tryz.strings_ContainsAny_laid _ _ _ hsz (by decide) Has.out Hac.out).mono ?_; rintro e w2 ⟨rfl, hb2⟩; rw [HC.out]; have hbb0 := hbb; clear hbb; have hbb := Lib.hid (below_then hbb0.out hbb0.out.size hb2); clear hb2 hbb0))
  go_ret2
  exact ⟨rfl, hbb.out⟩
set_option maxHeartbeats 1000000 in
theorem int_minus (s : ByteArray) (w : World) (hg : goodN s.data.toList = true) (hc : Lib.containsAny s.data.toList DotE = false) (hs : s.toList = [45, 48]) (hsz : s.size < 4294967281) (has : ∀ (j : Nat) b, s.data.toList[j]? = some b → b.toNat < 128) : Calls Tryz.prog 99 #[.string s] w fun e w' => e = .returned (.tuple #[.int .i64 0, .bool false]) ∧ Below w.heap.size w w' := by
  have HG := Lib.hid hg
  have HC := Lib.hid hc
  have Has := Lib.hid has
  have Hac := Lib.hid chars_ascii
  clear hg hc has
  go_enter Tryz.func99, Tryz.ntmps99
  go_wp2_with (first | (go_at_call 100; refine (good_any _ _).mono ?_; rintro e w1 ⟨rfl, hb1⟩; rw [HG.out]; have hbb := Lib.hid hb1; clear hb1) | (go_at_call 103; refine (Tryz.strings_ContainsAny_laid _ _ _ hsz (by decide) Has.out Hac.out).mono ?_; rintro e w2 ⟨rfl, hb2⟩; rw [HC.out]; have hbb0 := hbb; clear hbb; have hbb := Lib.hid (below_then hbb0.out hbb0.out.size hb2); clear hb2 hbb0))
  go_ret2
  exact ⟨rfl, hbb.out⟩
theorem bytes_below {w w' : World} {t : TypeId} (h : w' = w ∨ ∃ s, w' = Lib.bytesWorld w t s) : Below w.heap.size w w' := by
  rcases h with rfl | ⟨s, rfl⟩
  · exact Below.refl _ _
  · exact Joins.below_bytesWorld _ _ _ _ (Nat.le_refl _)
set_option maxHeartbeats 1000000 in
theorem int_ok (s : ByteArray) (w : World) (hg : goodN s.data.toList = true) (hc : Lib.containsAny s.data.toList DotE = false) (hs : ¬ s.toList = [45, 48]) (hsz : s.size < 4294967281) (hs8 : s.size ≤ 9223372036854775806) (has : ∀ (j : Nat) b, s.data.toList[j]? = some b → b.toNat < 128) (v : Int) (hp : Lib.parseIntB 64 s.data.toList = .ok v) : Calls Tryz.prog 99 #[.string s] w fun e w' => e = .returned (.tuple #[.int .i64 v, .bool true]) ∧ Below w.heap.size w w' := by
  have HG := Lib.hid hg
  have HC := Lib.hid hc
  have Has := Lib.hid has
  have Hac := Lib.hid chars_ascii
  have Hp := Lib.hid hp
  have hse : (s.toList == [45, 48]) = false := by simp [hs]
  clear hg hc has hp
  go_enter Tryz.func99, Tryz.ntmps99
  go_wp2_with (first | (go_at_call 100; refine (good_any _ _).mono ?_; rintro e w1 ⟨rfl, hb1⟩; rw [HG.out]; have hbb := Lib.hid hb1; clear hb1) | (go_at_call 103; refine (Tryz.strings_ContainsAny_laid _ _ _ hsz (by decide) Has.out Hac.out).mono ?_; rintro e w2 ⟨rfl, hb2⟩; rw [HC.out]; have hbb0 := hbb; clear hbb; have hbb := Lib.hid (below_then hbb0.out hbb0.out.size hb2); clear hb2 hbb0) | (go_at_call 104; refine (Tryz.strconv_ParseInt_10_at64_ok _ hs8 _ Hp.out _).mono ?_; rintro e w3 ⟨rfl, hw⟩; have hbb0 := hbb; clear hbb; have hbb := Lib.hid (below_then hbb0.out hbb0.out.size (bytes_below hw)); clear hw hbb0))
  go_ret2
  exact ⟨rfl, hbb.out⟩
set_option maxHeartbeats 1000000 in
  theorem int_syn (s : ByteArray) (w : World) (hg : goodN s.data.toList = true) (hc : Lib.containsAny s.data.toList DotE = false) (hs : ¬ s.toList = [45, 48]) (hsz : s.size < 4294967281) (hs8 : s.size ≤ 281474976710656) (has : ∀ (j : Nat) b, s.data.toList[j]? = some b → b.toNat < 128) (hp : Lib.parseIntB 64 s.data.toList = Lib.parseIntB 64 []) (ty : TypeId) (p : Value) (hv : w.var? Tryz.prog "strconv.ErrSyntax" = some #[.iface ty p]) : Calls Tryz.prog 99 #[.string s] w fun e w' => e = .returned (.tuple #[.int .i64 0, .bool false]) ∧ Below w.heap.size w w' := by
    have HG := Lib.hid hg
    have HC := Lib.hid hc
    have Has := Lib.hid has
    have Hac := Lib.hid chars_ascii
    have Hp := Lib.hid hp
    have Hv := Lib.hid hv
    have hse : (s.toList == [45, 48]) = false := by simp [hs]
    clear hg hc has hp hv
    go_enter Tryz.func99, Tryz.ntmps99
    go_wp2_with (first | (go_at_call 100; refine (good_any _ _).mono ?_; rintro e w1 ⟨rfl, hb1⟩; rw [HG.out]; have hbb := Lib.hid hb1; clear hb1) | (go_at_call 103; refine (Tryz.strings_ContainsAny_laid _ _ _ hsz (by decide) Has.out Hac.out).mono ?_; rintro e w2 ⟨rfl, hb2⟩; rw [HC.out]; have hbb0 := hbb; clear hbb; have hbb := Lib.hid (below_then hbb0.out hbb0.out.size hb2); clear hb2 hbb0) | (go_at_call 104; refine (Tryz.strconv_ParseInt_10_at64_syntax_var _ hs8 Hp.out _ _ _ (var_step Hv.out hbb.out)).mono ?_; rintro e w3 ⟨N, rfl, -, -, hb3⟩; have hbb0 := hbb; clear hbb; have hbb := Lib.hid (below_then hbb0.out hbb0.out.size hb3); clear hb3 hbb0))
    go_ret2
    exact ⟨rfl, hbb.out⟩
set_option maxHeartbeats 1000000 in
theorem int_range (s : ByteArray) (w : World) (hg : goodN s.data.toList = true) (hc : Lib.containsAny s.data.toList DotE = false) (hs : ¬ s.toList = [45, 48]) (hsz : s.size < 4294967281) (hs8 : s.size ≤ 281474976710656) (has : ∀ (j : Nat) b, s.data.toList[j]? = some b → b.toNat < 128) (hp : Lib.parseIntB 64 s.data.toList = .range) (ty : TypeId) (p : Value) (hv : w.var? Tryz.prog "strconv.ErrRange" = some #[.iface ty p]) : Calls Tryz.prog 99 #[.string s] w fun e w' => e = .returned (.tuple #[.int .i64 0, .bool false]) ∧ Below w.heap.size w w' := by
  have HG := Lib.hid hg
  have HC := Lib.hid hc
  have Has := Lib.hid has
  have Hac := Lib.hid chars_ascii
  have Hp := Lib.hid hp
  have Hv := Lib.hid hv
  have hse : (s.toList == [45, 48]) = false := by simp [hs]
  clear hg hc has hp hv
  go_enter Tryz.func99, Tryz.ntmps99
  go_wp2_with (first | (go_at_call 100; refine (good_any _ _).mono ?_; rintro e w1 ⟨rfl, hb1⟩; rw [HG.out]; have hbb := Lib.hid hb1; clear hb1) | (go_at_call 103; refine (Tryz.strings_ContainsAny_laid _ _ _ hsz (by decide) Has.out Hac.out).mono ?_; rintro e w2 ⟨rfl, hb2⟩; rw [HC.out]; have hbb0 := hbb; clear hbb; have hbb := Lib.hid (below_then hbb0.out hbb0.out.size hb2); clear hb2 hbb0) | (go_at_call 104; refine (Tryz.strconv_ParseInt_10_at64_range_var _ hs8 Hp.out _ _ _ (var_step Hv.out hbb.out)).mono ?_; rintro e w3 ⟨N, rfl, -, -, hb3⟩; have hbb0 := hbb; clear hbb; have hbb := Lib.hid (below_then hbb0.out hbb0.out.size hb3); clear hb3 hbb0))
  go_ret2
  exact ⟨rfl, hbb.out⟩
theorem int_any (s : ByteArray) (w : World) (hw : Vars w) (hgood : goodN s.data.toList = true → s.size ≤ 400 ∧ ∀ (j : Nat) b, s.data.toList[j]? = some b → b.toNat < 128) : Calls Tryz.prog 99 #[.string s] w fun e w' => e = .returned (.tuple #[.int .i64 ((intN s.data.toList).getD 0), .bool (intN s.data.toList).isSome]) ∧ Below w.heap.size w w' := by
  cases hg : goodN s.data.toList with
  | false =>
    have : intN s.data.toList = none := by unfold intN; rw [if_neg (by simp [hg])]
    rw [this]; exact int_bad s w hg
  | true =>
    obtain ⟨hsz, has⟩ := hgood hg
    cases hc : Lib.containsAny s.data.toList DotE with
    | true =>
      have : intN s.data.toList = none := by unfold intN; rw [if_neg (fun h => by have h2 : Lib.containsAny s.data.toList DotE = false := h.2.1; rw [hc] at h2; cases h2)]
      rw [this]; exact int_dot s w hg hc (by omega) has
    | false =>
      by_cases hs : s.toList = [45, 48]
      · have : intN s.data.toList = none := by unfold intN; rw [if_neg (fun h => h.2.2 (ba_toList.1 hs))]
        rw [this]; exact int_minus s w hg hc hs (by omega) has
      · have hi : intN s.data.toList = (match Lib.parseIntB 64 s.data.toList with | .ok v => some v | _ => none) := by unfold intN; rw [if_pos ⟨hg, hc, fun h => hs (ba_toList.2 h)⟩]
        cases hp : Lib.parseIntB 64 s.data.toList
        · rename_i v; rw [hp] at hi; rw [hi]; exact int_ok s w hg hc hs (by omega) (by omega) has v hp
        · rw [hp] at hi; rw [hi]; obtain ⟨ty, p, hv⟩ := hw.syn; exact int_syn s w hg hc hs (by omega) (by omega) has hp ty p hv
        · rw [hp] at hi; rw [hi]; obtain ⟨ty, p, hv⟩ := hw.rng; exact int_range s w hg hc hs (by omega) (by omega) has hp ty p hv
end Go.Proofs.YteplcnpmdjdlkaaGreatDoor
namespace Go.Proofs.YteplcnpmdjdlkaaGreatDoor
open Go.RowKit Go.ChangeShapes
theorem gPow : Tryz.prog.globalNamed "internal/strconv.uint64pow10" = some 5 := by kernel_rfl
theorem gPowT : (Tryz.prog.globals[(5 : Nat)]?).map (·.type) = some 187 := by kernel_rfl
theorem gRng : Tryz.prog.globalNamed "strconv.ErrRange" = some 1 := by kernel_rfl
theorem gRngT : (Tryz.prog.globals[(1 : Nat)]?).map (·.type) = some 136 := by kernel_rfl
theorem gSyn : Tryz.prog.globalNamed "strconv.ErrSyntax" = some 0 := by kernel_rfl
theorem gSynT : (Tryz.prog.globals[(0 : Nat)]?).map (·.type) = some 136 := by kernel_rfl
theorem rowErr (u : TypeId) (h : Tryz.prog.typeName? 3 u = some "*errors.errorString") : u = 174 :=
  have star : "*" ++ "errors.errorString" = "*errors.errorString" := by decide
  typeName_ptr_named (nm := "errors.errorString") (by rw [star]; kernel_rfl) (by kernel_rfl) (by decide) u (by rw [star]; exact h)
theorem vars_of_laid {W : World} (h0 : laidMetH Tryz.prog Rows.lwwKnownRow.laid W) : Vars W := by
  rw [MakeChecks.laidMetH_plain _ _ _ (by kernel_rfl)] at h0
  have h2 := h0.tail.tail
  have h4 := h2.tail.tail
  have h5 := h4.tail
  have e : Rows.laid_internal_strconv_uint64pow10 (H := Unit) = Lib.tabData .u64 Lib.pow10Tab := by kernel_rfl
  refine ⟨?_, ?_, ?_⟩
  · have h2' : laidMet Tryz.prog (("internal/strconv.uint64pow10", Lib.tabData .u64 Lib.pow10Tab) :: _) W := e ▸ h2
    exact Lib.tabIs_of_head gPow gPowT Tryz.underlying187 Tryz.underlying117 (by kernel_rfl) (by kernel_rfl) h2'
  · obtain ⟨a, s, hv, _⟩ := laid_sentinel h5 gSyn gSynT Tryz.underlying136 rowErr Tryz.underlying174 Tryz.underlying176 rfl rfl Tryz.underlying9 (by kernel_rfl) (by kernel_rfl)
    exact ⟨_, _, hv⟩
  · obtain ⟨a, s, hv, _⟩ := laid_sentinel h4 gRng gRngT Tryz.underlying136 rowErr Tryz.underlying174 Tryz.underlying176 rfl rfl Tryz.underlying9 (by kernel_rfl) (by kernel_rfl)
    exact ⟨_, _, hv⟩
end Go.Proofs.YteplcnpmdjdlkaaGreatDoor
