/-
  When two trees are alike, in plain Lean. No condition.
  When two operations are alike. No condition.
  utf.Take, utf.Valid and letters in closed form, for all texts shorter than a machine's memory. No condition beside that length.
  value.stamp tells what is written here, for all texts. No condition beside their length.
  value.Good tells what is written here, for all trees. Condition: the library's variables read as the library lays them.
  Likeness of trees: of each with itself, both ways, from one to another. No condition.
  Trees alike, part by part; they are judged alike. No condition.
-/
import Derived.Test.YtffcpmohanhihaaGreatDoorJ11
import Derived.Test.YtffcpmohanhihaaGreatDoorJ10
import Derived.Test.YtffcpmohanhihaaGreatDoorPu
import Derived.Lib.Strings
import Derived.Lib.ConvBytes
import Derived.Lib.SmallJoins
import Derived.Test.YtffcpmohanhihaaGreatDoorJudgeWJ
import Derived.Test.YtffcpmohanhihaaGreatDoorOwnJ
import Derived.Test.YtffcpmohanhihaaGreatDoorJ4
namespace Go.Proofs.YtffcpmohanhihaaGreatDoor
open Go.RowKit
set_option linter.unusedVariables false
set_option linter.unusedSimpArgs false
def sameB (num : ByteArray → ByteArray → Bool) : VT → VT → Bool
  | .no, b => (0 : Int) == b.k && (0 : Int) == b.n && 0 == b.ln && 0 == b.mn && ((⟨#[]⟩ : ByteArray).toList == b.s.toList)
  | .mk k n s _ _ _ ln _ lt _ _ _ mn _ key mt, b => k == b.k && n == b.n && ln == b.ln && mn == b.mn && (s.toList == b.s.toList || k == 3 && num s b.s) &&
      allTo (fun i => sameB num (lt i) (b.lt i)) ln && allTo (fun i => (key i).toList == (b.key i).toList && sameB num (mt i) (b.mt i)) mn
theorem sameB_eq (num : ByteArray → ByteArray → Bool) (a b : VT) : sameB num a b = (a.k == b.k && a.n == b.n && a.ln == b.ln && a.mn == b.mn && (a.s.toList == b.s.toList || a.k == 3 && num a.s b.s) &&
      allTo (fun i => sameB num (a.lt i) (b.lt i)) a.ln && allTo (fun i => (a.key i).toList == (b.key i).toList && sameB num (a.mt i) (b.mt i)) a.mn) := by
  cases a with
  | no => simp [sameB, VT.k, VT.n, VT.s, VT.ln, VT.mn, allTo]
  | mk => rfl
def nev (_ _ : ByteArray) : Bool := false
def sameV (a b : VT) : Bool := sameB nev a b
end Go.Proofs.YtffcpmohanhihaaGreatDoor
namespace Go.Proofs.YtffcpmohanhihaaGreatDoor
open Go.RowKit
def sameO (a b : OpV) (ta tb : VT) : Bool := sameV ta tb && (a.R == b.R && a.N == b.N) && a.T == b.T && a.seen == b.seen && a.K == b.K && (a.OR == b.OR && a.ON == b.ON) && a.key.toList == b.key.toList && (a.AR == b.AR && a.AN == b.AN) && a.M == b.M
end Go.Proofs.YtffcpmohanhihaaGreatDoor
namespace Go.Proofs.YtffcpmohanhihaaGreatDoor
open Go.RowKit
set_option linter.unusedVariables false
set_option linter.unusedSimpArgs false
def contB (c : Int) : Bool := decide (128 ≤ c) && decide (c < 192)
def goodR (r : Int) : Bool := decide (0 ≤ r) && decide (r ≤ 1114111) && (decide (r < 55296) || decide (57343 < r))
def sizeR (r : Int) : Int := if r < 128 then 1 else if r < 2048 then 2 else if r < 65536 then 3 else 4
def beginN (c : Int) : Int × Int := if c < 128 then (1, c) else if c < 192 then (0, 0) else if c < 224 then (2, c - 192) else if c < 240 then (3, c - 224) else if c < 248 then (4, c - 240) else (0, 0)
/-- The letter's further bytes, from the i-th on. -/
def foldU (s : ByteArray) (i : Int) : Nat → Int → Option Int
  | 0, r => some r
  | d + 1, r => if contB (bt s i) then foldU s (i + 1) d (r * 64 + (bt s i - 128)) else none
def takeS (s : ByteArray) : Int × Int :=
  if s.size = 0 then (0, 0) else if (beginN (bt s 0)).1 = 0 ∨ (s.size : Int) < (beginN (bt s 0)).1 then (0, 0) else
    match foldU s 1 ((beginN (bt s 0)).1.toNat - 1) (beginN (bt s 0)).2 with
    | none => (0, 0)
    | some r => if goodR r && sizeR r == (beginN (bt s 0)).1 then (r, (beginN (bt s 0)).1) else (0, 0)
theorem beginN_range (c : Int) (h0 : 0 ≤ c) : 0 ≤ (beginN c).1 ∧ (beginN c).1 ≤ 4 ∧ 0 ≤ (beginN c).2 ∧ (beginN c).2 < 128 := by
  unfold beginN
  repeat' split
  all_goals (simp; try omega)
theorem takeS_n (s : ByteArray) : 0 ≤ (takeS s).2 ∧ (takeS s).2 ≤ s.size ∧ (takeS s).2 ≤ 4 := by
  have hb := beginN_range (bt s 0) (bt_range s 0).1
  unfold takeS
  split
  · exact ⟨by simp, by simp, by simp⟩
  split
  · exact ⟨by simp, by simp, by simp⟩
  · rename_i h1 h2
    split
    · exact ⟨by simp, by simp, by simp⟩
    · split
      · exact ⟨by simp; omega, by simp; omega, by simp; omega⟩
      · exact ⟨by simp, by simp, by simp⟩
set_option maxRecDepth 10000 in
theorem u8_not2 : ∀ n : Fin 256, 192 ≤ n.val → n.val < 224 → wrap64 (Go.bits .andNot .u8 (n.val : Int) 192) = (n.val : Int) - 192 := by decide +kernel
set_option maxRecDepth 10000 in
theorem u8_not3 : ∀ n : Fin 256, 224 ≤ n.val → n.val < 240 → wrap64 (Go.bits .andNot .u8 (n.val : Int) 224) = (n.val : Int) - 224 := by decide +kernel
set_option maxRecDepth 10000 in
theorem u8_not4 : ∀ n : Fin 256, 240 ≤ n.val → n.val < 248 → wrap64 (Go.bits .andNot .u8 (n.val : Int) 240) = (n.val : Int) - 240 := by decide +kernel
set_option maxRecDepth 10000 in
theorem u8_cont : ∀ n : Fin 256, (Go.bits .and .u8 (n.val : Int) 192 = 128) ↔ (128 ≤ n.val ∧ n.val < 192) := by decide +kernel
set_option maxRecDepth 10000 in
theorem u8_low : ∀ n : Fin 256, (128 ≤ n.val ∧ n.val < 192) → wrap64 (Go.bits .and .u8 (n.val : Int) 63) = (n.val : Int) - 128 := by decide +kernel
theorem fin_of {c : Int} (h0 : 0 ≤ c) (h1 : c ≤ 255) : ∃ n : Fin 256, (n.val : Int) = c := ⟨⟨c.toNat, by omega⟩, by simp; omega⟩
theorem begins_eq (c : Int) (h0 : 0 ≤ c) (h1 : c ≤ 255) : utf_begins.f c = some (beginN c) := by
  obtain ⟨n, rfl⟩ := fin_of h0 h1
  unfold utf_begins.f beginN
  by_cases a1 : (n.val : Int) < 128
  · rw [if_pos a1, if_pos a1]; simp [wrap64]; omega
  rw [if_neg a1, if_neg a1]
  by_cases a2 : (n.val : Int) < 192
  · rw [if_pos a2, if_pos a2]
  rw [if_neg a2, if_neg a2]
  by_cases a3 : (n.val : Int) < 224
  · rw [if_pos a3, if_pos a3, u8_not2 n (by omega) (by omega)]
  rw [if_neg a3, if_neg a3]
  by_cases a4 : (n.val : Int) < 240
  · rw [if_pos a4, if_pos a4, u8_not3 n (by omega) (by omega)]
  rw [if_neg a4, if_neg a4]
  by_cases a5 : (n.val : Int) < 248
  · rw [if_pos a5, if_pos a5, u8_not4 n (by omega) (by omega)]
  rw [if_neg a5, if_neg a5]
theorem goodR_eq (r : Int) : utf_Good.f r = some (goodR r) := by
  unfold utf_Good.f goodR
  by_cases h1 : 0 ≤ r
  · rw [if_pos (show r ≥ 0 from h1)]
    by_cases h2 : r ≤ 1114111
    · rw [if_pos h2]
      by_cases h3 : r < 55296
      · rw [if_pos h3]; simp [h1, h2, h3]
      · rw [if_neg h3]; simp [h1, h2, h3]
    · rw [if_neg h2]; simp [h2]
  · rw [if_neg (show ¬ r ≥ 0 from h1)]; simp [h1]
theorem sizeR_eq (r : Int) : utf_size.f r = some (sizeR r) := by
  unfold utf_size.f sizeR
  repeat' split
  all_goals rfl
theorem or_join (x y : Int) (hx : 0 ≤ x) (hx2 : x < 4294967296) (hy : 0 ≤ y) (hy2 : y < 64) : Go.bits .or .i64 (wrap64 (x * 64)) y = x * 64 + y := by
  have hw : wrap64 (x * 64) = x * 64 := by unfold wrap64; omega
  rw [hw]
  have hk : ∀ n : Int, 0 ≤ n → n < 2 ^ 40 → IntKind.i64.wrap n = n := fun n h0 h1 => by
    have h2 : n < 1099511627776 := h1
    rw [IntKind.wrap_i64]; omega
  have h40 : x * 64 < 2 ^ 40 := by
    show x * 64 < 1099511627776
    omega
  have h6 : y < 2 ^ 6 := hy2
  have h7 : x * 64 % 2 ^ 6 = 0 := by
    show x * 64 % 64 = 0
    omega
  exact bits_join .i64 40 (by decide) hk 6 (x * 64) y (by omega) h7 h40 hy h6 (by
    show y < 1099511627776
    omega)
def endU (n : Int) : Option Int → Int × Int
  | none => (0, 0)
  | some r => if goodR r && sizeR r == n then (r, n) else (0, 0)
theorem take_end (k : Nat) (s : ByteArray) (n r : Int) : utf_Take.l0 (k + 1) s n r n = some (endU n (some r)) := by
  rw [utf_Take.l0, if_neg (Int.lt_irrefl n), goodR_eq]
  simp only [Option.bind_some, endU]
  cases hg : goodR r
  · simp
  · simp only [if_true, sizeR_eq, Option.bind_some, Bool.true_and, beq_iff_eq]
    split <;> rfl
theorem take_go (s : ByteArray) (n : Int) (hs : n ≤ s.size) : ∀ (d k : Nat) (i r : Int), n = i + d → d < k → 1 ≤ i → n ≤ 4 → 0 ≤ r → r < 128 * 64 ^ (3 - d) → d ≤ 3 → utf_Take.l0 k s n r i = some (endU n (foldU s i d r)) := by
  intro d
  induction d with
  | zero =>
    intro k i r hn hk hi h4 h0 h1 hd
    obtain ⟨k, rfl⟩ : ∃ m, k = m + 1 := ⟨k - 1, by omega⟩
    obtain rfl : i = n := by omega
    exact take_end k s i r
  | succ d ih =>
    intro k i r hn hk hi h4 h0 h1 hd
    obtain ⟨k, rfl⟩ : ∃ m, k = m + 1 := ⟨k - 1, by omega⟩
    have hb := bt_range s i
    obtain ⟨c, hc⟩ := fin_of hb.1 hb.2
    rw [utf_Take.l0, if_pos (by omega), if_pos (by omega), if_pos (by omega), foldU]
    by_cases hcont : 128 ≤ c.val ∧ c.val < 192
    · have e1 : contB (bt s i) = true := by rw [← hc]; simp [contB]; omega
      rw [if_pos (by rw [← hc]; exact (u8_cont c).2 hcont), if_pos e1]
      have hr4 : r < 4294967296 := by
        have : d = 0 ∨ d = 1 ∨ d = 2 := by omega
        rcases this with rfl | rfl | rfl <;> simp at h1 <;> omega
      have e2 : wrap64 (Go.bits .and .u8 (bt s i) 63) = bt s i - 128 := by rw [← hc]; exact u8_low c hcont
      rw [e2, or_join r _ h0 hr4 (by omega) (by omega)]
      have e3 : wrap64 (i + 1) = i + 1 := by unfold wrap64; omega
      rw [e3]
      refine ih k (i + 1) _ (by omega) (by omega) (by omega) h4 (by omega) ?_ (by omega)
      have : d = 0 ∨ d = 1 ∨ d = 2 := by omega
      rcases this with rfl | rfl | rfl <;> simp at h1 ⊢ <;> omega
    · have e1 : contB (bt s i) = false := by rw [← hc]; simp [contB]; omega
      rw [if_neg (by rw [← hc]; exact fun h => hcont ((u8_cont c).1 h)), if_neg (by rw [e1]; simp)]
      rfl
theorem empty_iff (s : ByteArray) : s.toList = ([] : List UInt8) ↔ s.size = 0 := by
  rw [Lib.toList_data, Lib.size_eq]
  cases s.data.toList <;> simp
theorem take_eq (s : ByteArray) (k : Nat) (hk : 6 ≤ k) (hs : s.size ≤ 9223372036854775807) : utf_Take.f k s = some (takeS s) := by
  obtain ⟨k, rfl⟩ : ∃ m, k = m + 6 := ⟨k - 6, by omega⟩
  have hb := bt_range s 0
  have hB := beginN_range (bt s 0) hb.1
  unfold utf_Take.f takeS
  by_cases h0 : s.size = 0
  · rw [if_pos ((empty_iff s).2 h0), if_pos h0]
  rw [if_neg (fun h => h0 ((empty_iff s).1 h)), if_neg h0, if_pos (by omega), begins_eq _ hb.1 hb.2]
  simp only [Option.bind_some]
  generalize beginN (bt s 0) = p at hB ⊢
  obtain ⟨n, r⟩ := p
  simp only at hB ⊢
  by_cases h1 : n = 0
  · rw [if_pos h1, if_pos (.inl h1)]
    simp [utf_Take.j0]
  rw [if_neg h1]
  by_cases h2 : (s.size : Int) < n
  · rw [if_pos (.inr h2)]
    rw [utf_Take.j0, if_pos (by simpa using h2)]
  · rw [if_neg (by omega), utf_Take.j0, if_neg (by simpa using h2)]
    rw [take_go s n (by omega) (n.toNat - 1) (k + 5) 1 r (by omega) (by omega) (by omega) hB.2.1 hB.2.2.1 (by
      have : n.toNat - 1 = 0 ∨ n.toNat - 1 = 1 ∨ n.toNat - 1 = 2 ∨ n.toNat - 1 = 3 := by omega
      rcases this with h | h | h | h <;> rw [h] <;> simp <;> omega) (by omega)]
    cases foldU s 1 (n.toNat - 1) r <;> rfl
/-- From a place on: letters alone, and up to where. -/
def vGo (s : ByteArray) : Nat → Nat → Int × Bool
  | 0, _ => (s.size, true)
  | d + 1, i => if i < s.size then (if (takeS (s.extract i s.size)).2 = 0 then (i, false) else vGo s d (i + (takeS (s.extract i s.size)).2.toNat)) else (s.size, true)
def validS (s : ByteArray) : Int × Bool := vGo s s.size 0
theorem extract_size (s : ByteArray) (i : Nat) : (s.extract i s.size).size = s.size - i := by simp
theorem valid_go (s : ByteArray) (hs : s.size ≤ 9223372036854775807) : ∀ (d k i : Nat), s.size - i ≤ d → d + 7 ≤ k → i ≤ s.size → utf_Valid.l0 k s i = some (vGo s d i) := by
  intro d
  induction d with
  | zero =>
    intro k i hd hk hi
    obtain ⟨k, rfl⟩ : ∃ m, k = m + 1 := ⟨k - 1, by omega⟩
    obtain rfl : i = s.size := by omega
    rw [utf_Valid.l0, if_neg (by omega), vGo]
  | succ d ih =>
    intro k i hd hk hi
    obtain ⟨k, rfl⟩ : ∃ m, k = m + 1 := ⟨k - 1, by omega⟩
    rw [utf_Valid.l0, vGo]
    by_cases hlt : i < s.size
    · rw [if_pos (by omega), if_pos (by omega), if_pos (by omega), if_pos hlt]
      simp only [Int.toNat_natCast]
      rw [take_eq _ k (by omega) (by simp; omega)]
      have hn := takeS_n (s.extract i s.size)
      rw [extract_size] at hn
      simp only [Option.bind_some]
      by_cases h0 : (takeS (s.extract i s.size)).2 = 0
      · rw [if_pos h0, if_pos h0]
      · rw [if_neg h0, if_neg h0]
        have e : wrap64 ((i : Int) + (takeS (s.extract i s.size)).2) = ((i + (takeS (s.extract i s.size)).2.toNat : Nat) : Int) := by
          unfold wrap64
          omega
        rw [e]
        exact ih k _ (by omega) (by omega) (by omega)
    · rw [if_neg (by omega), if_neg hlt]
theorem valid_eq (s : ByteArray) (hs : s.size ≤ 9223372036854775807) (k : Nat) (hk : s.size + 7 ≤ k) : utf_Valid.f k s = some (validS s) := valid_go s hs s.size k 0 (by omega) hk (by omega)
/-- What letters tells: OK, no letters, too long. -/
def letC (s : ByteArray) : Int := if (validS s).2 = true then (if 4096 < s.size then 2 else 0) else 3
theorem letters_eq (s : ByteArray) (hs : s.size ≤ 9223372036854775807) : value_letters.f (s.size + 7) s = some (letC s) := by
  unfold value_letters.f letC
  rw [valid_eq s hs _ (Nat.le_refl _)]
  simp only [Option.bind_some]
  split
  · by_cases h : 4096 < s.size
    · rw [if_pos (by omega), if_pos h]
    · rw [if_neg (by omega), if_neg h]
  · rfl
theorem letters_any (s : ByteArray) (w : World) (hs : s.size ≤ 9223372036854775807) : Calls Tryz.prog 127 #[.string s] w fun e w' => e = .returned (.int .i64 (letC s)) ∧ Below w.heap.size w w' :=
  (value_letters.calls _ s _ w (letters_eq s hs)).mono fun _ _ ⟨he, hd⟩ => ⟨he, hd.below⟩
theorem valid_any (s : ByteArray) (w : World) (hs : s.size ≤ 9223372036854775807) : Calls Tryz.prog 70 #[.string s] w fun e w' => e = .returned (.tuple #[.int .i64 (validS s).1, .bool (validS s).2]) ∧ Below w.heap.size w w' :=
  (utf_Valid.calls _ s _ _ w (valid_eq s hs _ (Nat.le_refl _))).mono fun _ _ ⟨he, hd⟩ => ⟨he, hd.below⟩
end Go.Proofs.YtffcpmohanhihaaGreatDoor
namespace Go.Proofs.YtffcpmohanhihaaGreatDoor
open Go.RowKit
set_option linter.unusedVariables false
set_option linter.unusedSimpArgs false
def oddB (c : UInt8) : Bool := decide (c.toNat < 32) || decide (126 < c.toNat)
def oddL (l : List UInt8) : Bool := l.any oddB
def stampB (s : ByteArray) : Bool := decide (1 ≤ s.size) && decide (s.size ≤ 64) && !(oddL s.data.toList)
theorem odd_any (c : UInt8) (w : World) : Calls Tryz.prog 158 #[.int .u8 (c.toNat : Int)] w fun e w' => e = .returned (.bool (oddB c)) ∧ w' = w := by
  have hc := c.toNat_lt
  by_cases h : c.toNat < 32
  · have hh : Hid (oddB c = true) := by unfold Hid oddB; simp [h]
    have h1 : decide ((c.toNat : Int) < 32) = true := by simp; omega
    go_enter Tryz.func158, Tryz.ntmps158
    go_wp2
    go_ret
    exact ⟨ret_bool hh.out.symm, rfl⟩
  · have hh : Hid (oddB c = decide (126 < c.toNat)) := by unfold Hid oddB; simp [h]
    have h1 : decide ((c.toNat : Int) < 32) = false := by simp; omega
    go_enter Tryz.func158, Tryz.ntmps158
    go_wp2
    go_ret
    exact ⟨ret_bool (by rw [hh.out, Bool.eq_iff_iff]; simp; omega), rfl⟩
set_option maxHeartbeats 1000000 in
/-- The first odd byte's place, or -1. -/
theorem index_any (l : List UInt8) (g cap : Nat) (w : World) (hl : l.length ≤ 9223372036854775806) (hc : ∀ j, j < l.length → w.cell? ⟨g, j, none⟩ = some (.int .u8 (l.getD j 0).toNat)) :
    Calls Tryz.prog 170 #[.slice (some ⟨g, 0, none⟩) l.length cap, .func (.func 158) #[] #[]] w fun e w' => (∃ r : Int, e = .returned (.int .i64 r) ∧ decide (0 ≤ r) = oddL l) ∧ w' = w := by
  have HC := Lib.hid hc
  clear hc
  go_enter Tryz.func170, Tryz.ntmps170
  go_wp2_with fail
  go_loop [8] (fun iv => ∃ k : Nat, k ≤ l.length ∧ iv = .int .i64 (k : Int) ∧ Hid ((l.take k).any oddB = false)) (fun iv => l.length - (intOf iv).toNat)
  case atStart => exact ⟨0, Nat.zero_le _, rfl, rfl⟩
  case round =>
    obtain ⟨k, hk, rfl, H⟩ := hrel
    by_cases hlt : k < l.length
    · have hx := run_index_row (P := Tryz.prog) 105 5 Tryz.underlying105 1 (by kernel_rfl) (A := some ⟨g, 0, none⟩) rfl hlt cap
      have hcell := HC.out k hlt
      have hn : Hid ((l.take (k + 1)).any oddB = oddB (l.getD k 0)) := by
        unfold Hid
        rw [List.take_succ_eq_append_getElem hlt, List.any_append, H.out, List.getD_eq_getElem?_getD, List.getElem?_eq_getElem hlt]
        simp
      have hy : Hid (oddB (l.getD k 0) = true → oddL l = true) := by
        intro h
        unfold oddL
        rw [List.any_eq_true]
        exact ⟨_, by rw [List.getD_eq_getElem?_getD, List.getElem?_eq_getElem hlt]; exact List.getElem_mem hlt, h⟩
      have hodd := odd_any (l.getD k 0) w
      generalize l.getD k 0 = c at *
      cases ho : oddB c
      · rw [ho] at hodd
        have HO := Lib.hid hodd
        have hn2 : Hid ((l.take (k + 1)).any oddB = false) := hn.out.trans ho
        clear hodd hn hy ho
        go_wp2_with (first | go_skip | (refine call_fn rfl (.tmp 11) #[.tmp 15] #[5] rfl rfl Tryz.func158 (by kernel_rfl) (by kernel_rfl) #[.int .u8 (c.toNat : Int)] (by simp only [List.map_toArray, List.map_cons, List.map_nil]; rfl) ?_; (with_reducible (refine HO.out.mono ?_)); rintro e w1 ⟨rfl, rfl⟩; refine ⟨_, rfl, ?_⟩))
        go_round
        case rel => exact ⟨k + 1, by omega, by go_num, hn2⟩
        case measure => simp [intOf]; omega
      · rw [ho] at hodd
        have HO := Lib.hid hodd
        have hy2 : Hid (oddL l = true) := hy.out ho
        clear hodd hn hy ho
        go_wp2_with (first | go_skip | (refine call_fn rfl (.tmp 11) #[.tmp 15] #[5] rfl rfl Tryz.func158 (by kernel_rfl) (by kernel_rfl) #[.int .u8 (c.toNat : Int)] (by simp only [List.map_toArray, List.map_cons, List.map_nil]; rfl) ?_; (with_reducible (refine HO.out.mono ?_)); rintro e w1 ⟨rfl, rfl⟩; refine ⟨_, rfl, ?_⟩))
        go_ret
        exact ⟨⟨_, rfl, by rw [hy2.out]; simp⟩, rfl⟩
    · obtain rfl : k = l.length := by omega
      go_wp2_with fail
      go_ret
      refine ⟨⟨_, rfl, ?_⟩, rfl⟩
      have := H.out
      rw [List.take_length] at this
      unfold oddL; rw [this]; simp
set_option maxHeartbeats 1000000 in
theorem contains_any (l : List UInt8) (g cap : Nat) (w : World) (hl : l.length ≤ 9223372036854775806) (hc : ∀ j, j < l.length → w.cell? ⟨g, j, none⟩ = some (.int .u8 (l.getD j 0).toNat)) :
    Calls Tryz.prog 159 #[.slice (some ⟨g, 0, none⟩) l.length cap, .func (.func 158) #[] #[]] w fun e w' => e = .returned (.bool (oddL l)) ∧ w' = w := by
  have H := Lib.hid (index_any l g cap w hl hc)
  clear hc
  go_enter Tryz.func159, Tryz.ntmps159
  go_wp2_with (go_at_call 170; refine H.out.mono ?_; rintro e w1 ⟨⟨r, rfl, hr⟩, rfl⟩; have HR := Lib.hid hr; clear hr)
  go_ret
  exact ⟨ret_bool HR.out, rfl⟩
set_option maxRecDepth 100000 in
set_option maxHeartbeats 1000000 in
theorem stamp_any (s : ByteArray) (w : World) (hs : s.size ≤ 9223372036854775807) : Calls Tryz.prog 146 #[.string s] w fun e w' => e = .returned (.bool (stampB s)) ∧ Below w.heap.size w w' := by
  by_cases h1 : 1 ≤ s.size
  · have e1 : decide ((1 : Int) ≤ s.size) = true := by simp; omega
    have e1b : decide (1 ≤ s.size) = true := by simp; omega
    by_cases h2 : s.size ≤ 64
    · have e2 : decide ((s.size : Int) ≤ 64) = true := by simp; omega
      have e2b : decide (s.size ≤ 64) = true := by simp; omega
      have hh : Hid (stampB s = !(oddL s.data.toList)) := by unfold Hid stampB; simp [h1, h2]
      have hlen : s.data.toList.length = s.size := by rw [Lib.size_eq]
      have HC := Lib.hid (contains_any s.data.toList w.heap.size (grownCap w s.size 0 5) (Lib.bytesWorld w 5 s) (by rw [hlen]; omega) (fun j hj => Lib.bytesWorld_cell w 5 s j (by rw [hlen] at hj; exact hj)))
      have HB := Lib.hid (Joins.below_bytesWorld w.heap.size w 5 s (Nat.le_refl _))
      have HC := HC.out
      rw [hlen] at HC
      have HC := Lib.hid HC
      clear hlen
      go_enter Tryz.func146, Tryz.ntmps146
      go_wp2_with (first | go_skip | (rw [Lib.run_convert_string_bytes _ 9 105 5 _ Tryz.underlying9 Tryz.underlying105 Tryz.underlying5]) | (go_at_call 159; refine HC.out.mono ?_; rintro e w1 ⟨rfl, rfl⟩))
      go_ret
      exact ⟨ret_bool hh.out.symm, HB.out⟩
    · have e2 : decide ((s.size : Int) ≤ 64) = false := by simp; omega
      have e2b : decide (s.size ≤ 64) = false := by simp; omega
      have hh : Hid (stampB s = false) := by unfold Hid stampB; simp [h2]
      go_enter Tryz.func146, Tryz.ntmps146
      go_wp2
      go_ret
      exact ⟨ret_bool hh.out.symm, Below.refl _ _⟩
  · have e1 : decide ((1 : Int) ≤ s.size) = false := decide_eq_false (by omega)
    have e1b : decide (1 ≤ s.size) = false := decide_eq_false (by omega)
    have hh : Hid (stampB s = false) := by unfold Hid stampB; simp [h1]
    go_enter Tryz.func146, Tryz.ntmps146
    go_wp2
    go_ret
    exact ⟨ret_bool hh.out.symm, Below.refl _ _⟩
end Go.Proofs.YtffcpmohanhihaaGreatDoor
namespace Go.Proofs.YtffcpmohanhihaaGreatDoor
open Go.RowKit
set_option linter.unusedVariables false
set_option linter.unusedSimpArgs false
theorem gPow' : Tryz.prog.globalNamed "internal/strconv.uint64pow10" = some 5 := by kernel_rfl
theorem gRng' : Tryz.prog.globalNamed "strconv.ErrRange" = some 1 := by kernel_rfl
theorem gSyn' : Tryz.prog.globalNamed "strconv.ErrSyntax" = some 0 := by kernel_rfl
/-- Behind the last variable that is read. -/
def GV : Nat := max 5 (max 1 0) + 1
theorem var_lt {n : String} {g : Nat} {cs : Array Value} {w : World} (hn : Tryz.prog.globalNamed n = some g) (h : w.var? Tryz.prog n = some cs) : g < w.heap.size := by
  unfold World.var? at h
  rw [hn] at h
  simp only [Option.bind_some] at h
  rcases Nat.lt_or_ge g w.heap.size with h' | h'
  · exact h'
  · rw [Array.getElem?_eq_none h'] at h; cases h
theorem var_b {n : String} {g B : Nat} {cs : Array Value} {w w' : World} (hn : Tryz.prog.globalNamed n = some g) (h : w.var? Tryz.prog n = some cs) (hg : g < B) (hb : Below B w w') : w'.var? Tryz.prog n = some cs := by
  unfold World.var? at h ⊢
  rw [hn] at h ⊢
  simp only [Option.bind_some] at h ⊢
  rw [hb.block g hg]
  exact h
theorem Vars.big {w : World} (h : Vars w) : GV ≤ w.heap.size := by
  have h1 := var_lt gPow' h.tab
  obtain ⟨_, _, hs⟩ := h.syn
  have h2 := var_lt gSyn' hs
  obtain ⟨_, _, hr⟩ := h.rng
  have h3 := var_lt gRng' hr
  unfold GV
  omega
theorem Vars.stay (B : Nat) (w w' : World) (hB : GV ≤ B) (h : Vars w) (hb : Below B w w') : Vars w' := by
  have hB' := hB
  unfold GV at hB'
  exact ⟨var_b gPow' h.tab (by omega) hb, by obtain ⟨t, p, h⟩ := h.syn; exact ⟨t, p, var_b gSyn' h (by omega) hb⟩, by obtain ⟨t, p, h⟩ := h.rng; exact ⟨t, p, var_b gRng' h (by omega) hb⟩⟩
def ownV (t : VT) : Bool := ownB t (intN t.s.data.toList).isSome (goodN t.s.data.toList) (letC t.s == 0) (stampB t.s)
theorem own_v (t : VT) (W : World) (hw : Vars W) (ht : VT.In W.heap.size W t) : Calls Tryz.prog 126 #[.agg t.c] W fun e w' => e = .returned (.bool (ownV t)) ∧ Below W.heap.size W w' := by
  have hs := ht.here.sl
  refine own_any t _ _ _ _ W ?_ ?_ ?_ ?_
  · exact fun _ W' hB => (int_any t.s W' (hw.step hB) good_ascii).mono fun e w' ⟨he, hb⟩ => ⟨⟨_, he⟩, hb⟩
  · exact fun _ W' hB => good_any t.s W'
  · exact fun _ W' hB => (letters_any t.s W' hs).mono fun e w' ⟨he, hb⟩ => ⟨⟨_, he, rfl⟩, hb⟩
  · exact fun _ W' hB => stamp_any t.s W' hs
def goodT (t : VT) : Bool := (judgeT ownV letC t 1 0).1
theorem goodT_any (t : VT) (w : World) (hw : Vars w) (ht : VT.In w.heap.size w t) : Calls Tryz.prog 95 #[.agg t.c] w fun e w' => e = .returned (.bool (goodT t)) ∧ Below w.heap.size w w' :=
  vGood_any ownV letC GV Vars (fun B W W' hB hW hb => Vars.stay B W W' hB hW hb) own_v (fun s W _ hs => letters_any s W hs) t w hw hw.big ht
end Go.Proofs.YtffcpmohanhihaaGreatDoor
namespace Go.Proofs.YtffcpmohanhihaaGreatDoor
set_option linter.unusedVariables false
set_option linter.unusedSimpArgs false
theorem sameV_eq (a b : VT) : sameV a b = (a.k == b.k && a.n == b.n && a.ln == b.ln && a.mn == b.mn && (a.s.toList == b.s.toList) &&
      allTo (fun i => sameV (a.lt i) (b.lt i)) a.ln && allTo (fun i => (a.key i).toList == (b.key i).toList && sameV (a.mt i) (b.mt i)) a.mn) := by
  unfold sameV
  rw [sameB_eq]
  simp [nev]
theorem sameV_iff (a b : VT) : sameV a b = true ↔ a.k = b.k ∧ a.n = b.n ∧ a.ln = b.ln ∧ a.mn = b.mn ∧ a.s.toList = b.s.toList ∧ (∀ i, i < a.ln → sameV (a.lt i) (b.lt i) = true) ∧ (∀ i, i < a.mn → (a.key i).toList = (b.key i).toList ∧ sameV (a.mt i) (b.mt i) = true) := by
  rw [sameV_eq]
  simp only [Bool.and_eq_true, beq_iff_eq, allTo_iff]
  constructor
  · rintro ⟨⟨⟨⟨⟨⟨h1, h2⟩, h3⟩, h4⟩, h5⟩, h6⟩, h7⟩
    exact ⟨h1, h2, h3, h4, h5, h6, h7⟩
  · rintro ⟨h1, h2, h3, h4, h5, h6, h7⟩
    exact ⟨⟨⟨⟨⟨⟨h1, h2⟩, h3⟩, h4⟩, h5⟩, h6⟩, h7⟩
theorem sameV_self (t : VT) : sameV t t = true := by
  induction t with
  | no => rw [sameV_iff]; exact ⟨rfl, rfl, rfl, rfl, rfl, fun i hi => absurd hi (Nat.not_lt_zero i), fun i hi => absurd hi (Nat.not_lt_zero i)⟩
  | mk k n s lA lb lo ln lc lt mA mb mo mn mc key mt ihl ihm =>
    rw [sameV_iff]
    exact ⟨rfl, rfl, rfl, rfl, rfl, fun i _ => ihl i, fun i _ => ⟨rfl, ihm i⟩⟩
theorem sameV_symm {a : VT} : ∀ {b : VT}, sameV a b = true → sameV b a = true := by
  have key : ∀ a : VT, (∀ i, i < a.ln → ∀ b, sameV (a.lt i) b = true → sameV b (a.lt i) = true) → (∀ i, i < a.mn → ∀ b, sameV (a.mt i) b = true → sameV b (a.mt i) = true) → ∀ b, sameV a b = true → sameV b a = true := by
    intro a ihl ihm b h
    rw [sameV_iff] at h ⊢
    obtain ⟨h1, h2, h3, h4, h5, h6, h7⟩ := h
    exact ⟨h1.symm, h2.symm, h3.symm, h4.symm, h5.symm, fun i hi => ihl i (by omega) _ (h6 i (by omega)), fun i hi => ⟨(h7 i (by omega)).1.symm, ihm i (by omega) _ (h7 i (by omega)).2⟩⟩
  induction a with
  | no => exact fun {b} => key .no (fun i hi => absurd hi (Nat.not_lt_zero i)) (fun i hi => absurd hi (Nat.not_lt_zero i)) b
  | mk k n s lA lb lo ln lc lt mA mb mo mn mc ky mt ihl ihm => exact fun {b} => key (.mk k n s lA lb lo ln lc lt mA mb mo mn mc ky mt) (fun i _ b h => @ihl i b h) (fun i _ b h => @ihm i b h) b
theorem sameV_trans {a : VT} : ∀ {b c : VT}, sameV a b = true → sameV b c = true → sameV a c = true := by
  have key : ∀ a : VT, (∀ i, i < a.ln → ∀ b c, sameV (a.lt i) b = true → sameV b c = true → sameV (a.lt i) c = true) → (∀ i, i < a.mn → ∀ b c, sameV (a.mt i) b = true → sameV b c = true → sameV (a.mt i) c = true) → ∀ b c, sameV a b = true → sameV b c = true → sameV a c = true := by
    intro a ihl ihm b c h k
    rw [sameV_iff] at h k ⊢
    obtain ⟨h1, h2, h3, h4, h5, h6, h7⟩ := h
    obtain ⟨k1, k2, k3, k4, k5, k6, k7⟩ := k
    exact ⟨h1.trans k1, h2.trans k2, h3.trans k3, h4.trans k4, h5.trans k5, fun i hi => ihl i hi _ _ (h6 i hi) (k6 i (by omega)), fun i hi => ⟨(h7 i hi).1.trans (k7 i (by omega)).1, ihm i hi _ _ (h7 i hi).2 (k7 i (by omega)).2⟩⟩
  induction a with
  | no => exact fun {b c} => key .no (fun i hi => absurd hi (Nat.not_lt_zero i)) (fun i hi => absurd hi (Nat.not_lt_zero i)) b c
  | mk k n s lA lb lo ln lc lt mA mb mo mn mc ky mt ihl ihm => exact fun {b c} => key (.mk k n s lA lb lo ln lc lt mA mb mo mn mc ky mt) (fun i _ b c h k => @ihl i b c h k) (fun i _ b c h k => @ihm i b c h k) b c
end Go.Proofs.YtffcpmohanhihaaGreatDoor
namespace Go.Proofs.YtffcpmohanhihaaGreatDoor
set_option linter.unusedVariables false
set_option linter.unusedSimpArgs false
set_option linter.unusedVariables false
set_option linter.unusedSimpArgs false
theorem ba_eq {a b : ByteArray} (h : a.toList = b.toList) : a = b := by
  rw [Lib.toList_data, Lib.toList_data] at h
  cases a with | mk a => cases b with | mk b => exact congrArg ByteArray.mk (Array.toList_inj.1 h)
/-- What likeness says, strings as they are. -/
theorem sameV_parts {a b : VT} (h : sameV a b = true) : a.k = b.k ∧ a.n = b.n ∧ a.ln = b.ln ∧ a.mn = b.mn ∧ a.s = b.s ∧ (∀ i, i < a.ln → sameV (a.lt i) (b.lt i) = true) ∧ (∀ i, i < a.mn → a.key i = b.key i ∧ sameV (a.mt i) (b.mt i) = true) := by
  obtain ⟨h1, h2, h3, h4, h5, h6, h7⟩ := (sameV_iff a b).1 h
  exact ⟨h1, h2, h3, h4, ba_eq h5, h6, fun i hi => ⟨ba_eq (h7 i hi).1, (h7 i hi).2⟩⟩
theorem VT.by_parts {p : VT → Prop} (key : ∀ t : VT, (∀ i, i < t.ln → p (t.lt i)) → (∀ i, i < t.mn → p (t.mt i)) → p t) (t : VT) : p t := by
  induction t with
  | no => exact key .no (fun i hi => absurd hi (Nat.not_lt_zero i)) (fun i hi => absurd hi (Nat.not_lt_zero i))
  | mk k n s lA lb lo ln lc lt mA mb mo mn mc ky mt ihl ihm => exact key (.mk k n s lA lb lo ln lc lt mA mb mo mn mc ky mt) (fun i _ => ihl i) (fun i _ => ihm i)
theorem runTo_congr {p q : Nat → Int → Bool × Int} {n : Nat} {m : Int} (h : ∀ i, i < n → ∀ m, p i m = q i m) : runTo p n m = runTo q n m := by
  induction n with
  | zero => rfl
  | succ n ih => rw [runTo, runTo, ih (fun i hi => h i (by omega)), h n (by omega)]
theorem judgeT_same {ob : VT → Bool} {letC : ByteArray → Int} (hob : ∀ a b, sameV a b = true → ob a = ob b) {a : VT} : ∀ {b : VT}, sameV a b = true → ∀ deep n0, judgeT ob letC a deep n0 = judgeT ob letC b deep n0 := by
  refine VT.by_parts (p := fun a => ∀ {b : VT}, sameV a b = true → ∀ deep n0, judgeT ob letC a deep n0 = judgeT ob letC b deep n0) (fun a ihl ihm b h deep n0 => ?_) a
  obtain ⟨h1, h2, h3, h4, h5, h6, h7⟩ := sameV_parts h
  have e1 : ∀ m, runTo (judgeL ob letC a deep) a.ln m = runTo (judgeL ob letC b deep) a.ln m := fun m => runTo_congr (fun i hi m => ihl i hi (h6 i hi) _ _)
  have e2 : ∀ m, runTo (judgeM ob letC a deep) a.mn m = runTo (judgeM ob letC b deep) a.mn m := fun m => runTo_congr (fun i hi m => by
    unfold judgeM
    rw [(h7 i hi).1, ihm i hi (h7 i hi).2]
    rcases Nat.eq_zero_or_pos i with h0 | h0
    · subst h0; simp
    · rw [(h7 (i - 1) (by omega)).1])
  rw [judgeT_eq ob letC a, judgeT_eq ob letC b, hob a b h, ← h3, ← h4, e1, e2]
theorem ownV_same (a b : VT) (h : sameV a b = true) : ownV a = ownV b := by
  obtain ⟨h1, h2, h3, h4, h5, h6, h7⟩ := sameV_parts h
  unfold ownV ownB
  rw [h1, h2, h3, h4, h5]
theorem goodT_same {a b : VT} (h : sameV a b = true) : goodT a = goodT b := by
  unfold goodT
  rw [judgeT_same ownV_same h]
theorem sameB_of {num : ByteArray → ByteArray → Bool} {a : VT} : ∀ {b : VT}, sameV a b = true → sameB num a b = true := by
  refine VT.by_parts (p := fun a => ∀ {b : VT}, sameV a b = true → sameB num a b = true) (fun a ihl ihm b h => ?_) a
  obtain ⟨h1, h2, h3, h4, h5, h6, h7⟩ := sameV_parts h
  rw [sameB_eq]
  simp only [Bool.and_eq_true, beq_iff_eq, allTo_iff, Bool.or_eq_true]
  exact ⟨⟨⟨⟨⟨⟨h1, h2⟩, h3⟩, h4⟩, Or.inl (by rw [h5])⟩, fun i hi => ihl i hi (h6 i hi)⟩, fun i hi => ⟨by rw [(h7 i hi).1], ihm i hi (h7 i hi).2⟩⟩
theorem sameV_comm (a b : VT) : sameV a b = sameV b a := by
  cases h : sameV a b with
  | true => exact (sameV_symm h).symm
  | false =>
    cases h2 : sameV b a with
    | true => rw [sameV_symm h2] at h; cases h
    | false => rfl
end Go.Proofs.YtffcpmohanhihaaGreatDoor
