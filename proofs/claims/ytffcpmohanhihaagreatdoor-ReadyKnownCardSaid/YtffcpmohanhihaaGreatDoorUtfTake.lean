/-
  utf.Take, utf.Valid and letters in closed form, for all texts shorter than a machine's memory. No condition beside that length.
-/
import Derived.Test.YtffcpmohanhihaaGreatDoorPu
import Derived.Lib.Strings
namespace Go.Proofs.YtffcpmohanhihaaGreatDoor
open Go.RowKit
set_option linter.unusedVariables false
set_option linter.unusedSimpArgs false
def contB (c : Int) : Bool := decide (128 ≤ c) && decide (c < 192)
def goodR (r : Int) : Bool := decide (0 ≤ r) && decide (r ≤ 1114111) && (decide (r < 55296) || decide (57343 < r))
def sizeR (r : Int) : Int := if r < 128 then 1 else if r < 2048 then 2 else if r < 65536 then 3 else 4
def beginN (c : Int) : Int × Int := if c < 128 then (1, c) else if c < 192 then (0, 0) else if c < 224 then (2, c - 192) else if c < 240 then (3, c - 224) else if c < 248 then (4, c - 240) else (0, 0)
/-- The letter's further bytes, from the i-th on. -/
def foldU (s : ByteArray) (i : Int) : Nat → Int → Option Int
  | 0, r => some r
  | d + 1, r => if contB (bt s i) then foldU s (i + 1) d (r * 64 + (bt s i - 128)) else none
def takeS (s : ByteArray) : Int × Int :=
  if s.size = 0 then (0, 0) else if (beginN (bt s 0)).1 = 0 ∨ (s.size : Int) < (beginN (bt s 0)).1 then (0, 0) else
    match foldU s 1 ((beginN (bt s 0)).1.toNat - 1) (beginN (bt s 0)).2 with
    | none => (0, 0)
    | some r => if goodR r && sizeR r == (beginN (bt s 0)).1 then (r, (beginN (bt s 0)).1) else (0, 0)
theorem beginN_range (c : Int) (h0 : 0 ≤ c) : 0 ≤ (beginN c).1 ∧ (beginN c).1 ≤ 4 ∧ 0 ≤ (beginN c).2 ∧ (beginN c).2 < 128 := by
  unfold beginN
  repeat' split
  all_goals (simp; try omega)
theorem takeS_n (s : ByteArray) : 0 ≤ (takeS s).2 ∧ (takeS s).2 ≤ s.size ∧ (takeS s).2 ≤ 4 := by
  have hb := beginN_range (bt s 0) (bt_range s 0).1
  unfold takeS
  split
  · exact ⟨by simp, by simp, by simp⟩
  split
  · exact ⟨by simp, by simp, by simp⟩
  · rename_i h1 h2
    split
    · exact ⟨by simp, by simp, by simp⟩
    · split
      · exact ⟨by simp; omega, by simp; omega, by simp; omega⟩
      · exact ⟨by simp, by simp, by simp⟩
set_option maxRecDepth 10000 in
theorem u8_not2 : ∀ n : Fin 256, 192 ≤ n.val → n.val < 224 → wrap64 (Go.bits .andNot .u8 (n.val : Int) 192) = (n.val : Int) - 192 := by decide +kernel
set_option maxRecDepth 10000 in
theorem u8_not3 : ∀ n : Fin 256, 224 ≤ n.val → n.val < 240 → wrap64 (Go.bits .andNot .u8 (n.val : Int) 224) = (n.val : Int) - 224 := by decide +kernel
set_option maxRecDepth 10000 in
theorem u8_not4 : ∀ n : Fin 256, 240 ≤ n.val → n.val < 248 → wrap64 (Go.bits .andNot .u8 (n.val : Int) 240) = (n.val : Int) - 240 := by decide +kernel
set_option maxRecDepth 10000 in
theorem u8_cont : ∀ n : Fin 256, (Go.bits .and .u8 (n.val : Int) 192 = 128) ↔ (128 ≤ n.val ∧ n.val < 192) := by decide +kernel
set_option maxRecDepth 10000 in
theorem u8_low : ∀ n : Fin 256, (128 ≤ n.val ∧ n.val < 192) → wrap64 (Go.bits .and .u8 (n.val : Int) 63) = (n.val : Int) - 128 := by decide +kernel
theorem fin_of {c : Int} (h0 : 0 ≤ c) (h1 : c ≤ 255) : ∃ n : Fin 256, (n.val : Int) = c := ⟨⟨c.toNat, by omega⟩, by simp; omega⟩
theorem begins_eq (c : Int) (h0 : 0 ≤ c) (h1 : c ≤ 255) : utf_begins.f c = some (beginN c) := by
  obtain ⟨n, rfl⟩ := fin_of h0 h1
  unfold utf_begins.f beginN
  by_cases a1 : (n.val : Int) < 128
  · rw [if_pos a1, if_pos a1]; simp [wrap64]; omega
  rw [if_neg a1, if_neg a1]
  by_cases a2 : (n.val : Int) < 192
  · rw [if_pos a2, if_pos a2]
  rw [if_neg a2, if_neg a2]
  by_cases a3 : (n.val : Int) < 224
  · rw [if_pos a3, if_pos a3, u8_not2 n (by omega) (by omega)]
  rw [if_neg a3, if_neg a3]
  by_cases a4 : (n.val : Int) < 240
  · rw [if_pos a4, if_pos a4, u8_not3 n (by omega) (by omega)]
  rw [if_neg a4, if_neg a4]
  by_cases a5 : (n.val : Int) < 248
  · rw [if_pos a5, if_pos a5, u8_not4 n (by omega) (by omega)]
  rw [if_neg a5, if_neg a5]
theorem goodR_eq (r : Int) : utf_Good.f r = some (goodR r) := by
  unfold utf_Good.f goodR
  by_cases h1 : 0 ≤ r
  · rw [if_pos (show r ≥ 0 from h1)]
    by_cases h2 : r ≤ 1114111
    · rw [if_pos h2]
      by_cases h3 : r < 55296
      · rw [if_pos h3]; simp [h1, h2, h3]
      · rw [if_neg h3]; simp [h1, h2, h3]
    · rw [if_neg h2]; simp [h2]
  · rw [if_neg (show ¬ r ≥ 0 from h1)]; simp [h1]
theorem sizeR_eq (r : Int) : utf_size.f r = some (sizeR r) := by
  unfold utf_size.f sizeR
  repeat' split
  all_goals rfl
theorem or_join (x y : Int) (hx : 0 ≤ x) (hx2 : x < 4294967296) (hy : 0 ≤ y) (hy2 : y < 64) : Go.bits .or .i64 (wrap64 (x * 64)) y = x * 64 + y := by
  have hw : wrap64 (x * 64) = x * 64 := by unfold wrap64; omega
  rw [hw]
  have hk : ∀ n : Int, 0 ≤ n → n < 2 ^ 40 → IntKind.i64.wrap n = n := fun n h0 h1 => by
    have h2 : n < 1099511627776 := h1
    rw [IntKind.wrap_i64]; omega
  have h40 : x * 64 < 2 ^ 40 := by
    show x * 64 < 1099511627776
    omega
  have h6 : y < 2 ^ 6 := hy2
  have h7 : x * 64 % 2 ^ 6 = 0 := by
    show x * 64 % 64 = 0
    omega
  exact bits_join .i64 40 (by decide) hk 6 (x * 64) y (by omega) h7 h40 hy h6 (by
    show y < 1099511627776
    omega)
def endU (n : Int) : Option Int → Int × Int
  | none => (0, 0)
  | some r => if goodR r && sizeR r == n then (r, n) else (0, 0)
theorem take_end (k : Nat) (s : ByteArray) (n r : Int) : utf_Take.l0 (k + 1) s n r n = some (endU n (some r)) := by
  rw [utf_Take.l0, if_neg (Int.lt_irrefl n), goodR_eq]
  simp only [Option.bind_some, endU]
  cases hg : goodR r
  · simp
  · simp only [if_true, sizeR_eq, Option.bind_some, Bool.true_and, beq_iff_eq]
    split <;> rfl
theorem take_go (s : ByteArray) (n : Int) (hs : n ≤ s.size) : ∀ (d k : Nat) (i r : Int), n = i + d → d < k → 1 ≤ i → n ≤ 4 → 0 ≤ r → r < 128 * 64 ^ (3 - d) → d ≤ 3 → utf_Take.l0 k s n r i = some (endU n (foldU s i d r)) := by
  intro d
  induction d with
  | zero =>
    intro k i r hn hk hi h4 h0 h1 hd
    obtain ⟨k, rfl⟩ : ∃ m, k = m + 1 := ⟨k - 1, by omega⟩
    obtain rfl : i = n := by omega
    exact take_end k s i r
  | succ d ih =>
    intro k i r hn hk hi h4 h0 h1 hd
    obtain ⟨k, rfl⟩ : ∃ m, k = m + 1 := ⟨k - 1, by omega⟩
    have hb := bt_range s i
    obtain ⟨c, hc⟩ := fin_of hb.1 hb.2
    rw [utf_Take.l0, if_pos (by omega), if_pos (by omega), if_pos (by omega), foldU]
    by_cases hcont : 128 ≤ c.val ∧ c.val < 192
    · have e1 : contB (bt s i) = true := by rw [← hc]; simp [contB]; omega
      rw [if_pos (by rw [← hc]; exact (u8_cont c).2 hcont), if_pos e1]
      have hr4 : r < 4294967296 := by
        have : d = 0 ∨ d = 1 ∨ d = 2 := by omega
        rcases this with rfl | rfl | rfl <;> simp at h1 <;> omega
      have e2 : wrap64 (Go.bits .and .u8 (bt s i) 63) = bt s i - 128 := by rw [← hc]; exact u8_low c hcont
      rw [e2, or_join r _ h0 hr4 (by omega) (by omega)]
      have e3 : wrap64 (i + 1) = i + 1 := by unfold wrap64; omega
      rw [e3]
      refine ih k (i + 1) _ (by omega) (by omega) (by omega) h4 (by omega) ?_ (by omega)
      have : d = 0 ∨ d = 1 ∨ d = 2 := by omega
      rcases this with rfl | rfl | rfl <;> simp at h1 ⊢ <;> omega
    · have e1 : contB (bt s i) = false := by rw [← hc]; simp [contB]; omega
      rw [if_neg (by rw [← hc]; exact fun h => hcont ((u8_cont c).1 h)), if_neg (by rw [e1]; simp)]
      rfl
theorem empty_iff (s : ByteArray) : s.toList = ([] : List UInt8) ↔ s.size = 0 := by
  rw [Lib.toList_data, Lib.size_eq]
  cases s.data.toList <;> simp
theorem take_eq (s : ByteArray) (k : Nat) (hk : 6 ≤ k) (hs : s.size ≤ 9223372036854775807) : utf_Take.f k s = some (takeS s) := by
  obtain ⟨k, rfl⟩ : ∃ m, k = m + 6 := ⟨k - 6, by omega⟩
  have hb := bt_range s 0
  have hB := beginN_range (bt s 0) hb.1
  unfold utf_Take.f takeS
  by_cases h0 : s.size = 0
  · rw [if_pos ((empty_iff s).2 h0), if_pos h0]
  rw [if_neg (fun h => h0 ((empty_iff s).1 h)), if_neg h0, if_pos (by omega), begins_eq _ hb.1 hb.2]
  simp only [Option.bind_some]
  generalize beginN (bt s 0) = p at hB ⊢
  obtain ⟨n, r⟩ := p
  simp only at hB ⊢
  by_cases h1 : n = 0
  · rw [if_pos h1, if_pos (.inl h1)]
    simp [utf_Take.j0]
  rw [if_neg h1]
  by_cases h2 : (s.size : Int) < n
  · rw [if_pos (.inr h2)]
    rw [utf_Take.j0, if_pos (by simpa using h2)]
  · rw [if_neg (by omega), utf_Take.j0, if_neg (by simpa using h2)]
    rw [take_go s n (by omega) (n.toNat - 1) (k + 5) 1 r (by omega) (by omega) (by omega) hB.2.1 hB.2.2.1 (by
      have : n.toNat - 1 = 0 ∨ n.toNat - 1 = 1 ∨ n.toNat - 1 = 2 ∨ n.toNat - 1 = 3 := by omega
      rcases this with h | h | h | h <;> rw [h] <;> simp <;> omega) (by omega)]
    cases foldU s 1 (n.toNat - 1) r <;> rfl
/-- From a place on: letters alone, and up to where. -/
def vGo (s : ByteArray) : Nat → Nat → Int × Bool
  | 0, _ => (s.size, true)
  | d + 1, i => if i < s.size then (if (takeS (s.extract i s.size)).2 = 0 then (i, false) else vGo s d (i + (takeS (s.extract i s.size)).2.toNat)) else (s.size, true)
def validS (s : ByteArray) : Int × Bool := vGo s s.size 0
theorem extract_size (s : ByteArray) (i : Nat) : (s.extract i s.size).size = s.size - i := by simp
theorem valid_go (s : ByteArray) (hs : s.size ≤ 9223372036854775807) : ∀ (d k i : Nat), s.size - i ≤ d → d + 7 ≤ k → i ≤ s.size → utf_Valid.l0 k s i = some (vGo s d i) := by
  intro d
  induction d with
  | zero =>
    intro k i hd hk hi
    obtain ⟨k, rfl⟩ : ∃ m, k = m + 1 := ⟨k - 1, by omega⟩
    obtain rfl : i = s.size := by omega
    rw [utf_Valid.l0, if_neg (by omega), vGo]
  | succ d ih =>
    intro k i hd hk hi
    obtain ⟨k, rfl⟩ : ∃ m, k = m + 1 := ⟨k - 1, by omega⟩
    rw [utf_Valid.l0, vGo]
    by_cases hlt : i < s.size
    · rw [if_pos (by omega), if_pos (by omega), if_pos (by omega), if_pos hlt]
      simp only [Int.toNat_natCast]
      rw [take_eq _ k (by omega) (by simp; omega)]
      have hn := takeS_n (s.extract i s.size)
      rw [extract_size] at hn
      simp only [Option.bind_some]
      by_cases h0 : (takeS (s.extract i s.size)).2 = 0
      · rw [if_pos h0, if_pos h0]
      · rw [if_neg h0, if_neg h0]
        have e : wrap64 ((i : Int) + (takeS (s.extract i s.size)).2) = ((i + (takeS (s.extract i s.size)).2.toNat : Nat) : Int) := by
          unfold wrap64
          omega
        rw [e]
        exact ih k _ (by omega) (by omega) (by omega)
    · rw [if_neg (by omega), if_neg hlt]
theorem valid_eq (s : ByteArray) (hs : s.size ≤ 9223372036854775807) (k : Nat) (hk : s.size + 7 ≤ k) : utf_Valid.f k s = some (validS s) := valid_go s hs s.size k 0 (by omega) hk (by omega)
/-- What letters tells: OK, no letters, too long. -/
def letC (s : ByteArray) : Int := if (validS s).2 = true then (if 4096 < s.size then 2 else 0) else 3
theorem letters_eq (s : ByteArray) (hs : s.size ≤ 9223372036854775807) : value_letters.f (s.size + 7) s = some (letC s) := by
  unfold value_letters.f letC
  rw [valid_eq s hs _ (Nat.le_refl _)]
  simp only [Option.bind_some]
  split
  · by_cases h : 4096 < s.size
    · rw [if_pos (by omega), if_pos h]
    · rw [if_neg (by omega), if_neg h]
  · rfl
theorem letters_any (s : ByteArray) (w : World) (hs : s.size ≤ 9223372036854775807) : Calls Tryz.prog 127 #[.string s] w fun e w' => e = .returned (.int .i64 (letC s)) ∧ Below w.heap.size w w' :=
  (value_letters.calls _ s _ w (letters_eq s hs)).mono fun _ _ ⟨he, hd⟩ => ⟨he, hd.below⟩
theorem valid_any (s : ByteArray) (w : World) (hs : s.size ≤ 9223372036854775807) : Calls Tryz.prog 70 #[.string s] w fun e w' => e = .returned (.tuple #[.int .i64 (validS s).1, .bool (validS s).2]) ∧ Below w.heap.size w w' :=
  (utf_Valid.calls _ s _ _ w (valid_eq s hs _ (Nat.le_refl _))).mono fun _ _ ⟨he, hd⟩ => ⟨he, hd.below⟩
end Go.Proofs.YtffcpmohanhihaaGreatDoor
